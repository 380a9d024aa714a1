/- Walks. -/
import Derived.Test.YtocppjcocnckmaaGreatDoorM04
import Derived.Maps.AppendAt
import Derived.Deep.AppendLies
import Derived.Laws.Rows
set_option maxRecDepth 100000
set_option maxHeartbeats 8000000
set_option linter.all false
namespace Go.Proofs.YtocppjcocnckmaaGreatDoor
open Go.RowKit
def Row (w:World)(e:TypeId)(sz g n cap:Nat)(xs:List Value):Prop :=
 ∃ cur,w.heap[g]? = some (.cells cur e (0,0))/\n<=cap/\cap<=maxLen/\cur.size=cap*sz/\cur.toList.take (n*sz)=xs/\xs.length=n*sz
def Cells (w:World)(a:Option Addr)(xs:List Value):Prop:=∀ (j:Nat) u,xs[j]? = some u->∃ b,a=some b/\w.cell? (b.add j)=some u
def Sl (w:World)(e:TypeId)(sz:Nat)(v:Value)(n:Nat)(xs:List Value)(own:Option Nat):Prop :=
 (own=none/\∃ a,v = .slice a n n/\(a=none->n=0)/\n<=maxLen/\Cells w a xs/\xs.length=n*sz)∨(∃ g cap,own=some g/\v = .slice (some ⟨g,0,none⟩) n cap/\Row w e sz g n cap xs)
section
variable {w w':World} {e:TypeId} {sz g n cap:Nat} {xs:List Value} {S:List Nat}
theorem dZ (b o i:Nat):(⟨b,o,none⟩:Addr).add i=⟨b,o+i,none⟩:=by
 unfold Addr.add
 by_cases h:i=0<;>simp[h]
theorem Row.lt (h:Row w e sz g n cap xs):g<w.heap.size:=by
 obtain⟨cur,hg,_⟩:=h
 rcases Nat.lt_or_ge g w.heap.size with h'|h'
 ·exact h'
 rw[Array.getElem?_eq_none h'] at hg;cases hg
theorem Row.length (h:Row w e sz g n cap xs):xs.length=n*sz:=by obtain⟨_,_,_,_,_,_,h⟩:=h;exact h
theorem Row.le (h:Row w e sz g n cap xs):n<=cap:=by obtain⟨_,_,h,_⟩:=h;exact h
theorem Row.lW (h:Row w e sz g n cap xs):cap<=maxLen:=by obtain⟨_,_,_,h,_⟩:=h;exact h
theorem Row.cell (h:Row w e sz g n cap xs){j:Nat}{u:Value}(hu:xs[j]? = some u):w.cell? ⟨g,j,none⟩=some u:=by
 obtain⟨cur,hg,_,_,_,ht,_⟩:=h
 rw[<-ht,List.getElem?_take] at hu
 split at hu
 ·rw[cell_of_row w g j cur e (0,0) hg];simpa using hu
 cases hu
theorem Row.frozen (h:Row w e sz g n cap xs)(j:Nat):w.frozen? ⟨g,j,none⟩=false:=by
 obtain⟨cur,hg,_⟩:=h
 simp[World.frozen?,hg]
theorem Row.fr (h:Row w e sz g n cap xs)(hf:Fr S w w')(hg:g∉S):Row w' e sz g n cap xs:=by
 have hl:=h.lt
 obtain⟨cur,h0,r⟩:=h
 exact⟨cur,(hf.block g hl hg).trans h0,r⟩
theorem Row.drew (h:Row w e sz g n cap xs):Row w.drew e sz g n cap xs:=h
theorem Row.drewN (h:Row w e sz g n cap xs)(k:Nat):Row (w.drewN k) e sz g n cap xs:=h
theorem Row.alloc (h:Row w e sz g n cap xs)(o:Obj):Row (w.alloc o) e sz g n cap xs:=h.fr ((Fr.refl [] w).alloc o) (by simp)
theorem Row.far (h:Row w e sz g n cap xs){p:Addr}(hp:g≠p.block)(u:Value):Row (w.setCell p u) e sz g n cap xs:=by
 obtain⟨cur,h0,r⟩:=h
 exact⟨cur,(Below.heap_setCell w p u g hp).trans h0,r⟩
theorem Row.cells (h:Row w e sz g n cap xs):Cells w (some ⟨g,0,none⟩) xs:=λj u hu=>⟨_,rfl,by rw[dZ,Nat.zero_add];exact h.cell hu⟩
theorem Row.new (w:World)(cs:Array Value)(hs:cs.size=n*sz)(hn:n<=maxLen):Row (w.alloc (.cells cs e)) e sz w.heap.size n n cs.toList :=
 ⟨cs,heap_alloc_new w _,Nat.le_refl _,hn,hs,List.take_of_length_le (by simp[hs]),by simpa using hs⟩
theorem Row.ne {g':Nat}{t':TypeId}{cs':Array Value}(h:Row w e sz g n cap xs)(h':Holds w g' t' cs')(hne:e≠t'):g≠g':=by
 obtain⟨cur,h0,_⟩:=h
 exact Holds.ne (t:=e) h0 h' hne
theorem Row.less (h:Row w e sz g n cap xs){k:Nat}(hk:k<=n):Row w e sz g k cap (xs.take (k*sz)):=by
 obtain⟨cur,h0,h1,h2,h3,h4,h5⟩:=h
 refine⟨cur,h0,by omega,h2,h3,?_,?_⟩
 ·rw[<-h4,List.take_take,Nat.min_eq_left (Nat.mul_le_mul_right _ hk)]
 rw[List.length_take,h5,Nat.min_eq_left (Nat.mul_le_mul_right _ hk)]
theorem Row.set (h:Row w e sz g n cap xs)(j:Nat)(u:Value):Row (w.setCell ⟨g,j,none⟩ u) e sz g n cap (xs.set j u):=by
 obtain⟨cur,h0,h1,h2,h3,h4,h5⟩:=h
 refine⟨cur.setIfInBounds j u,?_,h1,h2,by simpa using h3,?_,by simpa using h5⟩
 ·simp[World.setCell,Array.getElem?_modify,h0]
 rw[Array.toList_setIfInBounds,List.take_set,h4]
theorem Cells.nil (a:Option Addr):Cells w a []:=λj u hu=>by simp at hu
theorem Cells.FZ {a:Option Addr}(h:Cells w a xs)(hk:∀ p:Addr,a=some p->∀ o,w'.cell? ⟨p.block,o,p.spot⟩=w.cell? ⟨p.block,o,p.spot⟩)(hs:∀ p:Addr,a=some p->p.spot=none):Cells w' a xs:=λj u hu=>by
 obtain⟨b,rfl,hc⟩:=h j u hu
 refine⟨b,rfl,?_⟩
 have h1:=hs b rfl
 have h2:=hk b rfl (b.off+j)
 obtain⟨bb,bo,bs⟩:=b
 simp only at h1
 subst h1
 rw[dZ] at hc ⊢
 exact h2.trans hc
theorem Cells.fr {b o:Nat}(h:Cells w (some ⟨b,o,none⟩) xs)(hf:Fr S w w')(hb:b<w.heap.size)(hS:b∉S):Cells w' (some ⟨b,o,none⟩) xs :=
 h.FZ (λp hp q=>by cases hp;exact World.cell?_of_block (w:=w) (hf.block b hb hS)) (λp hp=>by cases hp;rfl)
theorem Cells.drop {b o:Nat}(h:Cells w (some ⟨b,o,none⟩) xs)(k:Nat):Cells w (some ⟨b,o+k,none⟩) (xs.drop k):=λj u hu=>by
 rw[List.getElem?_drop] at hu
 obtain⟨c,hc,hv⟩:=h (k+j) u hu
 cases hc
 exact⟨_,rfl,by rw[dZ] at hv ⊢;rw[Nat.add_assoc];exact hv⟩
theorem Cells.at_ {b o j:Nat}{u:Value}(h:Cells w (some ⟨b,o,none⟩) xs)(hu:xs[j]? = some u):w.cell? ⟨b,o+j,none⟩=some u:=by
 obtain⟨c,hc,hv⟩:=h j u hu
 cases hc
 rw[dZ] at hv
 exact hv
theorem Sl.nil (w:World)(e:TypeId)(sz:Nat):Sl w e sz (.slice none 0 0) 0 [] none:=.inl ⟨rfl,none,rfl,λ_=>rfl,Nat.zero_le _,Cells.nil _,by simp⟩
theorem Sl.row (h:Row w e sz g n cap xs):Sl w e sz (.slice (some ⟨g,0,none⟩) n cap) n xs (some g):=.inr ⟨g,cap,rfl,rfl,h⟩
theorem Sl.length {v:Value}{own:Option Nat}(h:Sl w e sz v n xs own):xs.length=n*sz:=by
 rcases h with⟨_,_,_,_,_,_,h⟩|⟨_,_,_,_,h⟩
 ·exact h
 exact h.length
theorem Cells.fr0 {a:Option Addr}(h:Cells w a xs)(hf:Fr [] w w'):Cells w' a xs:=λj u hu=>by
 obtain⟨b,rfl,hc⟩:=h j u hu
 refine⟨b,rfl,?_⟩
 have hl:=block_lt_of_cell hc
 rw[<-hc]
 exact World.cell?_of_block (w:=w) (hf.block _ hl (by simp))
theorem Sl.fr0 {v:Value}{own:Option Nat}(h:Sl w e sz v n xs own)(hf:Fr [] w w'):Sl w' e sz v n xs own:=by
 rcases h with⟨h0,a,hv,h1,h2,h3,h4⟩|⟨g,c,h0,hv,hr⟩
 ·exact .inl ⟨h0,a,hv,h1,h2,h3.fr0 hf,h4⟩
 exact .inr ⟨g,c,h0,hv,hr.fr hf (by simp)⟩
theorem Sl.cI {v:Value}{k:Nat}(h:Sl w e sz v n xs (some k)):∃ c,v = .slice (some ⟨k,0,none⟩) n c/\Row w e sz k n c xs:=by
 rcases h with⟨h0,_⟩|⟨g,c,h0,hv,hr⟩
 ·cases h0
 cases h0;exact⟨c,hv,hr⟩
theorem Cells.one {p t:Nat}{u:Value}(h:Holds w p t #[u]):Cells w (some ⟨p,0,none⟩) [u]:=λj x hx=>by
 match j,hx with
 | 0,hx =>
  simp at hx
  subst hx
  exact⟨_,rfl,by rw[dZ];exact h.cell 0⟩
theorem Sl.far {v:Value}{own:Option Nat}{r t':Nat}{cs:Array Value}(h:Sl w e sz v n xs own)(hm:0<n->∃ g,own=some g)(hp:Holds w r t' cs)(hne:e≠t')(i:Nat)(u:Value):Sl (w.setCell ⟨r,i,none⟩ u) e sz v n xs own:=by
 rcases h with⟨h0,a,hv,h1,h2,h3,h4⟩|⟨g,c,h0,hv,hr⟩
 ·have hn:n=0:=by
   rcases Nat.eq_zero_or_pos n with h|h
   ·exact h
   obtain⟨g,hg⟩:=hm h
   rw[h0] at hg
   cases hg
  subst hn
  obtain rfl:xs=[]:=List.eq_nil_of_length_eq_zero (by simpa using h4)
  exact .inl ⟨h0,a,hv,h1,h2,Cells.nil _,h4⟩
 exact .inr ⟨g,c,h0,hv,hr.far (hr.ne hp hne) u⟩
theorem Sl.form {v:Value}{own:Option Nat}(h:Sl w e sz v n xs own):∃ a c,v = .slice a n c:=by
 rcases h with⟨_,a,h,_⟩|⟨g,c,_,h,_⟩
 ·exact⟨a,n,h⟩
 exact⟨_,c,h⟩
theorem Sl.tight (w:World)(e:TypeId)(sz:Nat)(a:Addr):Sl w e sz (.slice (some a) 0 0) 0 [] none:=.inl ⟨rfl,some a,rfl,(λh=>by cases h),Nat.zero_le _,Cells.nil _,by simp⟩
variable {P:Program}
theorem xj {z:Value}(hz:z.cells.size=sz)(hx:xs.length=n*sz)(c:Nat)(hc:n<=c)(hm:c<=maxLen) :
  Row (w.drew.alloc (.cells (xs.toArray++Builtin.zeroCells z.cells (c - n)) e)) e sz w.heap.size n c xs:=by
 refine⟨_,heap_alloc_new w.drew _,hc,hm,?_,?_,hx⟩
 ·simp only[Array.size_append,List.size_toArray,size_zeroCells,hz,hx,<-Nat.add_mul]
  congr 1
  omega
 simp only[Array.toList_append]
 rw[<-hx]
 exact List.take_left
theorem fS (t ty:TypeId)(i:TypeInfo)(z:Value)(bytes:Nat)(ht:P.underlying t=some (.slice e))(hi:P.info? e=some i)(hz:i.zero=some z)
  (hsize:i.size=sz) (hby:i.bytes=bytes) (hzs:z.cells.size=sz) (hsz:0<sz)
  (v:Value) (own:Option Nat) (h:Sl w e sz v n xs own) (a:Option Addr) (m c:Nat) (news:List Value) (hl:news.length=m*sz) (hnews:Cells w a news) (h1:∀ u∈news,u.oneCell'=true)
  (h63:n+m<=maxLen) (hbytes:(n+m)*bytes<=140737488355328) :
  ∃ v' w' own',(Builtin.append_ #[t,t] ty #[v,.slice a m c]).run P w = .ok v' w'/\Sl w' e sz v' (n+m) (xs++news) own'/\Fr own.toList w w' /\
   (own'=own∨∃ g,own'=some g/\w.heap.size<=g)/\(0<m->∃ g,own'=some g):=by
 subst hsize
 subst hby
 have hsmall:n+m<=9223372036854775807:=by simp only[maxLen] at h63;omega
 rcases Nat.eq_zero_or_pos m with rfl|hm
 ·obtain rfl:news=[]:=List.eq_nil_of_length_eq_zero (by simpa using hl)
  refine⟨v,w,own,?_,by simpa using h,rZ,.inl rfl,λh=>absurd h (by omega)⟩
  rcases h with⟨_,b,rfl,_⟩|⟨g,cap,_,rfl,hr⟩
  ·cases a<;>cases b<;>simp[Builtin.append_,run_underlying ht,sizeOf,typeInfo,hi,Builtin.lenOf,Builtin.firstCells,loadCells,loadCellsFrom,storeCells]
  have hle:=hr.le
  cases a<;>simp[Builtin.append_,run_underlying ht,sizeOf,typeInfo,hi,Builtin.lenOf,Builtin.firstCells,loadCells,loadCellsFrom,storeCells,hle]
 obtain⟨b,rfl,_⟩:∃ b,a=some b/\True:=by
  have h0:0<news.length:=by rw[hl];exact Nat.mul_pos hm hsz
  obtain⟨b,hb,_⟩:=hnews 0 _ (List.getElem?_eq_getElem h0)
  exact⟨b,hb,trivial⟩
 have hnews':∀ j u,news[j]? = some u->w.cell? (b.add j)=some u:=λj u hu=>by
  obtain⟨c,hc,hv⟩:=hnews j u hu
  cases hc
  exact hv
 have hxl:(xs++news).length=(n+m)*i.size:=by rw[List.length_append,h.length,hl,Nat.add_mul]
 have grown:∀ old:Nat,old<n+m->Sl (w.drew.alloc (.cells ((xs++news).toArray++Builtin.zeroCells z.cells (grownCap w (n+m) old e - (n+m))) e)) e i.size (.slice (some ⟨w.heap.size,0,none⟩) (n+m) (grownCap w (n+m) old e)) (n+m) (xs++news) (some w.heap.size) :=
  λold _=>Sl.row (xj hzs hxl _ (grownCap_ge w (n+m) old e) (grownCap_le_maxLen w (n+m) old e h63))
 have frame:∀ o:Obj,Fr own.toList w (w.drew.alloc o):=λo=>((Fr.refl _ w).drew).alloc o
 rcases h with⟨rfl,x,rfl,hx0,_,hxc,hxl0⟩|⟨g,cap,rfl,rfl,hr⟩
 ·cases x with
  | none =>
   obtain rfl:n=0:=hx0 rfl
   obtain rfl:xs=[]:=List.eq_nil_of_length_eq_zero (by simpa using hxl0)
   have hrun:=run_append_nil (P:=P) w t ty e i z ht hi hz b m c news hl hnews' hm (by omega) (by have:=hbytes;simp only[Nat.zero_add] at this;omega)
   have hg:=grown 0 (by omega)
   simp only[Nat.zero_add,List.nil_append] at hg
   exact⟨_,_,_,hrun,by simpa only[Nat.zero_add,List.nil_append] using hg,frame _,.inr ⟨_,rfl,Nat.le_refl _⟩,λ_=>⟨_,rfl⟩⟩
  | some x =>
   have hold:∀ j u,xs[j]? = some u->w.cell? (x.add j)=some u:=λj u hu=>by
    obtain⟨c,hc,hv⟩:=hxc j u hu
    cases hc
    exact hv
   have hrun:=run_append_grow (P:=P) w t ty e i z ht hi hz x n n xs hxl0 hold b m c news hl hnews' (by omega) (by omega) (growslice_fits (by omega) hbytes)
   have hg:=grown n (by omega)
   rw[show xs.toArray++news.toArray=(xs++news).toArray by simp] at hrun
   exact⟨_,_,_,hrun,hg,frame _,.inr ⟨_,rfl,Nat.le_refl _⟩,λ_=>⟨_,rfl⟩⟩
 by_cases hroom:n+m<=cap
 ·obtain⟨cur,hg,hnc,hcm,hcs,htake,hxl0⟩:=hr
  have hfit:n*i.size+news.length<=cur.size:=by rw[hl,hcs,<-Nat.add_mul];exact Nat.mul_le_mul_right _ hroom
  have hrun:=run_append_room (P:=P) w t ty e i ht hi g n cap cur hg b m c news hl hnews' h1 hroom hfit
  refine⟨_,_,some g,hrun,Sl.row ⟨_,setRow_heap w g cur _ e _ hg,hroom,hcm,?_,?_,hxl⟩,⟨rfl,rfl,rfl,by simp,λk _ hk=>setRow_other w g k _ (by simpa using hk)⟩,.inl rfl,λ_=>⟨_,rfl⟩⟩
  ·simp only[List.size_toArray,List.length_append,List.length_take,List.length_drop,Array.length_toList]
   omega
  rw[htake,<-hxl]
  exact List.take_left
 have holds:∀ j u,xs[j]? = some u->w.cell? ((⟨g,0,none⟩:Addr).add j)=some u:=λj u hu=>by rw[dZ,Nat.zero_add];exact hr.cell hu
 have hrun:=run_append_grow (P:=P) w t ty e i z ht hi hz ⟨g,0,none⟩ n cap xs hr.length holds b m c news hl hnews' (by omega) (by omega) (growslice_fits (by omega) hbytes)
 have hg:=grown cap (by omega)
 rw[show xs.toArray++news.toArray=(xs++news).toArray by simp] at hrun
 exact⟨_,_,_,hrun,hg,frame _,.inr ⟨_,rfl,Nat.le_refl _⟩,λ_=>⟨_,rfl⟩⟩
theorem af {ops:Array Oper}{rest:List Oper}{o:Oper}{A:Act}{Q:Exit->Act->World->Prop}(hgd:o.guard=none)(s x:Operand)(t:TypeId)
  (ho:o.op = .call { callee:=.builtin .append,args:=#[s,x],argTypes:=#[t,t] }) (i:TypeInfo) (z:Value) (bytes:Nat) (ht:P.underlying t=some (.slice e)) (hi:P.info? e=some i) (hz:i.zero=some z)
  (hsize:i.size=sz) (hby:i.bytes=bytes) (hzs:z.cells.size=sz) (hsz:0<sz)
  (v:Value) (own:Option Nat) (hs:A.eval s=v) (h:Sl w e sz v n xs own) (a:Option Addr) (m c:Nat) (news:List Value) (hx:A.eval x = .slice a m c) (hl:news.length=m*sz) (hnews:Cells w a news) (h1:∀ u∈news,u.oneCell'=true)
  (h63:n+m<=maxLen) (hbytes:(n+m)*bytes<=140737488355328)
  (hk:∀ v' w' own',Sl w' e sz v' (n+m) (xs++news) own'->Fr own.toList w w'->(own'=own∨∃ g,own'=some g/\w.heap.size<=g)->(0<m->∃ g,own'=some g)->wpList P ops Q rest (A.put o.dst v') w') :
  wpList P ops Q (o::rest) A w :=
 wpList_plain hgd λK hK=>by
  obtain⟨v',w',own',hr,h2,h3,h4,h5⟩:=fS (P:=P) t o.type i z bytes ht hi hz hsize hby hzs hsz v own h a m c news hl hnews h1 h63 hbytes
  unfold Oper.wp execOp
  simp only[ho,resolve,invoke,builtin,Sem.run_bind,Sem.run_pure,Result.andThen_ok,List.map_toArray,List.map_cons,List.map_nil,hs,hx,hr]
  exact hK _ _ (hk v' w' own' h2 h3 h4 h5)
theorem bu {ops:Array Oper}{o:Oper}{A:Act}{K:Act->World->Prop}{Q:Exit->Act->World->Prop}{E:Prop}(hgd:o.guard=none)(s x:Operand)(t:TypeId)
  (ho:o.op = .call { callee:=.builtin .append,args:=#[s,x],argTypes:=#[t,t] }) (i:TypeInfo) (z:Value) (bytes:Nat) (ht:P.underlying t=some (.slice e)) (hi:P.info? e=some i) (hz:i.zero=some z)
  (hsize:i.size=sz) (hby:i.bytes=bytes) (hzs:z.cells.size=sz) (hsz:0<sz)
  (v:Value) (own:Option Nat) (hs:A.eval s=v) (h:Sl w e sz v n xs own) (a:Option Addr) (m c:Nat) (news:List Value) (hx:A.eval x = .slice a m c) (hl:news.length=m*sz) (hnews:Cells w a news) (h1:∀ u∈news,u.oneCell'=true)
  (h63:n+m<=maxLen) (hbytes:(n+m)*bytes<=140737488355328)
  (hk:∀ v' w' own',Sl w' e sz v' (n+m) (xs++news) own'->Fr own.toList w w'->(own'=own∨∃ g,own'=some g/\w.heap.size<=g)->(0<m->∃ g,own'=some g)->K (A.put o.dst v') w') :
  if Region.wanted o (yielded ops A.tmps)=true then Oper.wp P o A w K Q else E:=by
 have hw:Region.wanted o (yielded ops A.tmps)=true:=by simp[Region.wanted,hgd]
 rw[if_pos hw]
 obtain⟨v',w',own',hr,h2,h3,h4,h5⟩:=fS (P:=P) t o.type i z bytes ht hi hz hsize hby hzs hsz v own h a m c news hl hnews h1 h63 hbytes
 unfold Oper.wp execOp
 simp only[ho,resolve,invoke,builtin,Sem.run_bind,Sem.run_pure,Result.andThen_ok,List.map_toArray,List.map_cons,List.map_nil,hs,hx,hr]
 exact hk v' w' own' h2 h3 h4 h5
end
