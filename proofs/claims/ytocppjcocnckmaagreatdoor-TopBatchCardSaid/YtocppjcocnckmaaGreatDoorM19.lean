/- Walks. -/
import Derived.Test.YtocppjcocnckmaaGreatDoorM09
import Derived.Test.YtocppjcocnckmaaGreatDoorM17
set_option maxRecDepth 100000
set_option maxHeartbeats 8000000
set_option linter.all false
open Go.Lib (hid)
namespace Go.Proofs.YtocppjcocnckmaaGreatDoor
open Go.Proofs.Tryz
namespace Ev
open Go.RowKit
def ic (x:M.Item):List Value:=[.string x.uid,.int .i64 x.version,.bool x.gone,.string x.au]
theorem Fb (x:M.Item):(ic x).length=4:=rfl
theorem kj (x:M.Item):∀ u∈ic x,u.oneCell'=true:=by
 intro u hu
 simp only[ic,List.mem_cons,List.not_mem_nil,or_false] at hu
 rcases hu with rfl|rfl|rfl|rfl<;>rfl
theorem pf:(prog.info? 59).map (λi=>(i.zero,i.size,i.bytes))=some (some (.agg #[.string ByteArray.empty,.int .i64 0,.bool false,.string ByteArray.empty]),4,48):=by kernel_rfl
def rqc (q:M.Req)(v:Value):List Value:=[.int .i64 q.kind,.string q.aR,.string q.col,.string q.uid,.string q.au,.int .i64 q.ck,.int .i64 q.cv,v,.int .i64 q.token,.int .i64 q.aD,.int .i64 q.bj]
def rsc (a:M.aU)(v:Value):List Value:=[.int .i64 a.kind,.int .i64 a.err,.int .i64 a.token,.int .i64 a.version,.string a.au,.int .i64 a.index,.bool a.more,v]
abbrev bD (w:World)(B:Nat)(v:Value)(l:List M.Op):Prop:=Own w B 43 5 v l.length (flat Lp.cs l)
abbrev aV (w:World)(B:Nat)(v:Value)(l:List M.Item):Prop:=Own w B 59 4 v l.length (flat ic l)
structure Raw where
 kind:Int
 conn:Int
 seq:Int
 aR:ByteArray
 rq:M.Req
 vo:Value
 rs:M.aU
 vi:Value
def Raw.cells (r:Raw):List Value:=[.int .i64 r.kind,.int .i64 r.conn,.int .i64 r.seq,.string r.aR]++rqc r.rq r.vo++rsc r.rs r.vi
theorem vT (r:Raw):r.cells.length=23:=rfl
def Raw.ev (r:Raw):M.Ev:=⟨r.kind,r.conn,r.seq,r.rs⟩
structure Raw.At (w:World)(B:Nat)(r:Raw):Prop where
 ops:bD w B r.vo r.rq.ops
 its:aV w B r.vi r.rs.items
 l1:r.rq.ops.length<=20
 l2:r.rs.items.length<=20
theorem Raw.At.frx {w w':World}{B:Nat}{r:Raw}{Us:List TypeId}(h:r.At w B)(hf:FrX B Us [] w w')(h1:43∉Us)(h2:59∉Us):r.At w' B :=
 ⟨h.ops.bf hf h1,h.its.bf hf h2,h.l1,h.l2⟩
theorem Own.jK {w:World}{B n:Nat}{e:TypeId}{sz:Nat}{v:Value}{xs:List Value}(h:Own w B e sz v n xs):v.oneCell'=true:=by
 obtain⟨a,c,rfl⟩:=h.form
 rfl
theorem Raw.At.one {w:World}{B:Nat}{r:Raw}(h:r.At w B):∀ u∈r.cells,u.oneCell'=true:=by
 have h1:=Own.jK h.ops
 have h2:=Own.jK h.its
 intro u hu
 simp only[Raw.cells,rqc,rsc,List.mem_append,List.mem_cons,List.not_mem_nil,or_false] at hu
 rcases hu with(((rfl|rfl|rfl|rfl)|(rfl|rfl|rfl|rfl|rfl|rfl|rfl|rfl|rfl|rfl|rfl))|(rfl|rfl|rfl|rfl|rfl|rfl|rfl|rfl))<;>first|rfl|assumption
structure dz (w:World)(B:Nat)(v:Value)(l:List M.Ev):Prop where
 at_:∃ L:List Raw,L.map Raw.ev=l/\Own w B 57 23 v L.length (flat Raw.cells L)/\∀ r∈L,r.At w B
theorem dz.frx {w w':World}{B:Nat}{v:Value}{l:List M.Ev}{Us:List TypeId}(h:dz w B v l)(hf:FrX B Us [] w w')(h1:43∉Us)(h2:59∉Us)(h3:57∉Us):dz w' B v l:=by
 obtain⟨L,e,o,k⟩:=h
 exact⟨L,e,o.bf hf h3,λr hr=>(k r hr).frx hf h1 h2⟩
open Go.RowKit
def eD (w:World)(g o:Nat)(a:M.aU)(v:Value):World :=
 (((((((w.setCell ⟨g,o,none⟩ (.int .i64 a.kind)).setCell ⟨g,o+1,none⟩ (.int .i64 a.err)).setCell ⟨g,o+2,none⟩ (.int .i64 a.token)).setCell ⟨g,o+3,none⟩ (.int .i64 a.version)).setCell ⟨g,o+4,none⟩ (.string a.au)).setCell ⟨g,o+5,none⟩ (.int .i64 a.index)).setCell ⟨g,o+6,none⟩ (.bool a.more)).setCell ⟨g,o+7,none⟩ v
theorem vW {w0 w:World}{g o:Nat}{a:M.aU}{v:Value}{S:List Nat}(h:Fr S w0 w)(hg:g∈S):Fr S w0 (eD w g o a v) :=
 (((((((h.setCell hg _).setCell hg _).setCell hg _).setCell hg _).setCell hg _).setCell hg _).setCell hg _).setCell hg _
theorem gi {w:World}{B g o:Nat}{a:M.aU}{v:Value}{t:TypeId}{Ts:List TypeId}(hg:B<=g)(ht:cB w g=some t)(hT:t∈Ts):FrX B Ts [] w (eD w g o a v) :=
 FrX.aB (vW (Fr.refl [g] w) (by simp)) (by simpa using hg) (λy hy=>⟨t,hT,by simp at hy;subst hy;exact ht⟩)
theorem kF {w0 w:World}{B g o:Nat}{a:M.aU}{v:Value}{Ts:List TypeId}{S:List Nat}(h:FrX B Ts S w0 w)(hg:w0.heap.size<=g):FrX B Ts S w0 (eD w g o a v) :=
 (((((((h.aw hg _).aw hg _).aw hg _).aw hg _).aw hg _).aw hg _).aw hg _).aw hg _
theorem eC {w:World}{g:Nat}{t:TypeId}{a0 a:M.aU}{v0 v:Value}(h:Holds w g t (rsc a0 v0).toArray):Holds (eD w g 0 a v) g t (rsc a v).toArray:=by
 have:=(((((((h.set 0 (.int .i64 a.kind)).set 1 (.int .i64 a.err)).set 2 (.int .i64 a.token)).set 3 (.int .i64 a.version)).set 4 (.string a.au)).set 5 (.int .i64 a.index)).set 6 (.bool a.more)).set 7 v
 simpa[rsc,eD] using this
def oO (w:World)(g o:Nat)(q:M.Req)(v:Value):World:=(((((((((((w.setCell ⟨g,o,none⟩ (.int .i64 q.kind)).setCell ⟨g,o+1,none⟩ (.string q.aR)).setCell ⟨g,o+2,none⟩ (.string q.col)).setCell ⟨g,o+3,none⟩ (.string q.uid)).setCell ⟨g,o+4,none⟩ (.string q.au)).setCell ⟨g,o+5,none⟩ (.int .i64 q.ck)).setCell ⟨g,o+6,none⟩ (.int .i64 q.cv)).setCell ⟨g,o+7,none⟩ v).setCell ⟨g,o+8,none⟩ (.int .i64 q.token)).setCell ⟨g,o+9,none⟩ (.int .i64 q.aD)).setCell ⟨g,o+10,none⟩ (.int .i64 q.bj))
theorem Ay {w0 w:World}{g o:Nat}{q:M.Req}{v:Value}{S:List Nat}(h:Fr S w0 w)(hg:g∈S):Fr S w0 (oO w g o q v):=(((((((((((h.setCell hg _).setCell hg _).setCell hg _).setCell hg _).setCell hg _).setCell hg _).setCell hg _).setCell hg _).setCell hg _).setCell hg _).setCell hg _)
theorem xE {w:World}{B g o:Nat}{q:M.Req}{v:Value}{t:TypeId}{Ts:List TypeId}(hg:B<=g)(ht:cB w g=some t)(hT:t∈Ts):FrX B Ts [] w (oO w g o q v) :=
 FrX.aB (Ay (Fr.refl [g] w) (by simp)) (by simpa using hg) (λy hy=>⟨t,hT,by simp at hy;subst hy;exact ht⟩)
theorem rJ {w:World}{g:Nat}{t:TypeId}{q0 q:M.Req}{v0 v:Value}(h:Holds w g t (rqc q0 v0).toArray):Holds (oO w g 0 q v) g t (rqc q v).toArray:=by
 have:=(((((((((((h.set 0 (.int .i64 q.kind)).set 1 (.string q.aR)).set 2 (.string q.col)).set 3 (.string q.uid)).set 4 (.string q.au)).set 5 (.int .i64 q.ck)).set 6 (.int .i64 q.cv)).set 7 v).set 8 (.int .i64 q.token)).set 9 (.int .i64 q.aD)).set 10 (.int .i64 q.bj))
 simpa[rqc,oO] using this
theorem Fr.aw {w w':World}{S:List Nat}(h:Fr S w w'){p:Addr}(hp:w.heap.size<=p.block)(u:Value):Fr S w (w'.setCell p u) :=
 ⟨h.os,h.tape,h.output,by simpa[World.setCell] using h.size,λk hk hn=>(Below.heap_setCell w' p u k (by omega)).trans (h.block k hk hn)⟩
theorem nC {w0 w:World}{g o:Nat}{a:M.aU}{v:Value}{S:List Nat}(h:Fr S w0 w)(hg:w0.heap.size<=g):Fr S w0 (eD w g o a v) :=
 Fr.aw (Fr.aw (Fr.aw (Fr.aw (Fr.aw (Fr.aw (Fr.aw (Fr.aw h hg _) hg _) hg _) hg _) hg _) hg _) hg _) hg _
theorem xF {w0 w:World}{g o:Nat}{q:M.Req}{v:Value}{S:List Nat}(h:Fr S w0 w)(hg:w0.heap.size<=g):Fr S w0 (oO w g o q v) :=
 Fr.aw (Fr.aw (Fr.aw (Fr.aw (Fr.aw (Fr.aw (Fr.aw (Fr.aw (Fr.aw (Fr.aw (Fr.aw h hg _) hg _) hg _) hg _) hg _) hg _) hg _) hg _) hg _) hg _) hg _
theorem Df {w w':World}{B n:Nat}{e:TypeId}{sz:Nat}{v':Value}{xs:List Value}{own':Option Nat}(hB:B<=w.heap.size)(hs:Sl w' e sz v' (0+n) ([]++xs) own')(ho:own'=none∨∃ g,own'=some g/\w.heap.size<=g)(hm:0<n->∃ g,own'=some g)(hn:0<n):Own w' B e sz v' n xs:=by
 rw[Nat.zero_add,List.nil_append] at hs
 exact(bn (v:=.slice none 0 0) (w:=w) (B:=B) hB (λy hy=>by cases hy) hs ho (hm hn)).1
theorem Own.cells {w:World}{B n:Nat}{e:TypeId}{sz:Nat}{v:Value}{xs:List Value}(h:Own w B e sz v n xs):∃ a c,v = .slice a n c/\Cells w a xs/\xs.length=n*sz:=by
 rcases h with⟨rfl,rfl,rfl⟩|⟨g,cap,_,rfl,hr⟩
 ·exact⟨_,_,rfl,Cells.nil _,by simp⟩
 exact⟨_,_,rfl,λj u hu=>⟨_,rfl,by
  rw[dZ,Nat.zero_add]
  exact hr.cell hu⟩,by obtain⟨_,_,_,_,_,_,hl⟩:=hr;exact hl⟩
section
variable {P:Program} {e sz:Nat} {w:World}
theorem mD (t ty:TypeId)(i:TypeInfo)(z:Value)(bytes:Nat)(ht:P.underlying t=some (.slice e))(hi:P.info? e=some i)(hz:i.zero=some z)
  (hsize:i.size=sz) (hby:i.bytes=bytes) (hzs:z.cells.size=sz) (hsz:0<sz) (a:Option Addr) (m c:Nat) (news:List Value) (hl:news.length=m*sz) (hnews:Cells w a news) (h1:∀ u∈news,u.oneCell'=true)
  (h63:m<=maxLen) (hbytes:m*bytes<=140737488355328) (B:Nat) (hB:B<=w.heap.size) :
  ∃ v' w',(Builtin.append_ #[t,t] ty #[.slice none 0 0,.slice a m c]).run P w = .ok v' w'/\Own w' B e sz v' m news/\Fr [] w w':=by
 rcases Nat.eq_zero_or_pos m with rfl|hm
 ·obtain rfl:news=[]:=List.eq_nil_of_length_eq_zero (by simpa using hl)
  refine⟨_,w,?_,Own.nil _ _ _ _,rZ⟩
  subst hsize
  cases a<;>simp[Builtin.append_,run_underlying ht,sizeOf,typeInfo,hi,Builtin.lenOf,Builtin.firstCells,loadCells,loadCellsFrom,storeCells]
 obtain⟨v',w',own',hr,h2,h3,h4,h5⟩:=fS (P:=P) t ty i z bytes ht hi hz hsize hby hzs hsz (.slice none 0 0) none (Sl.nil _ _ _) a m c news hl hnews h1 (by rw[Nat.zero_add];exact h63) (by rw[Nat.zero_add];exact hbytes)
 exact⟨v',w',hr,Df hB h2 h4 h5 hm,h3⟩
theorem dR {ops:Array Oper}{rest:List Oper}{o:Oper}{A:Act}{Q:Exit->Act->World->Prop}(B:Nat)(hgd:o.guard=none)(s x:Operand)(t:TypeId)
  (ho:o.op = .call { callee:=.builtin .append,args:=#[s,x],argTypes:=#[t,t] }) (i:TypeInfo) (z:Value) (bytes:Nat) (ht:P.underlying t=some (.slice e)) (hi:P.info? e=some i) (hz:i.zero=some z)
  (hsize:i.size=sz) (hby:i.bytes=bytes) (hzs:z.cells.size=sz) (hsz:0<sz) (hs:A.eval s = .slice none 0 0) (a:Option Addr) (m c:Nat) (news:List Value) (hx:A.eval x = .slice a m c) (hl:news.length=m*sz) (hnews:Cells w a news) (h1:∀ u∈news,u.oneCell'=true)
  (h63:m<=maxLen) (hbytes:m*bytes<=140737488355328) (hB:B<=w.heap.size)
  (hk:∀ v' w',Own w' B e sz v' m news->Fr [] w w'->wpList P ops Q rest (A.put o.dst v') w') :
  wpList P ops Q (o::rest) A w :=
 wpList_plain hgd λK hK=>by
  obtain⟨v',w',hr,h2,h3⟩:=mD (P:=P) t o.type i z bytes ht hi hz hsize hby hzs hsz a m c news hl hnews h1 h63 hbytes B hB
  unfold Oper.wp execOp
  simp only[ho,resolve,invoke,builtin,Sem.run_bind,Sem.run_pure,Result.andThen_ok,List.map_toArray,List.map_cons,List.map_nil,hs,hx,hr]
  exact hK _ _ (hk v' w' h2 h3)
end
end Ev
namespace Rp
open Go.RowKit Fm Pk
theorem jU (w:World)(b:Bool):Calls prog 182 #[.bool b] w λe w'=>e = .returned (.int .i64 (En.bit b))/\w=w':=by
 cases b
 all_goals
  go_enter func182,ntmps182
  go_wp2
  go_ret
  exact⟨rfl,rfl⟩
theorem kO {w:World}{B:Nat}{v:Value}{l:List M.Item}(h:Ev.aV w B v l){k:Nat}{x:M.Item}(hx:l[k]? = some x) :
  ∃ g c,B<=g/\v = .slice (some ⟨g,0,none⟩) l.length c/\g<w.heap.size/\w.cell? ⟨g,k*4,none⟩=some (.string x.uid)/\w.cell? ⟨g,k*4+1,none⟩=some (.int .i64 x.version)/\w.cell? ⟨g,k*4+2,none⟩=some (.bool x.gone)/\w.cell? ⟨g,k*4+3,none⟩=some (.string x.au):=by
 obtain⟨g,c2,hg,hv,hr,hgl,hcell⟩:=h.cell Ev.Fb rfl hx
 exact⟨g,c2,hg,hv,hgl,hcell 0 _ (by omega) rfl,hcell 1 _ (by omega) rfl,hcell 2 _ (by omega) rfl,hcell 3 _ (by omega) rfl⟩
structure vJ (i:M.Item):Prop where
 u1:1<=i.uid.size
 u2:i.uid.size<=4
 v1:0<=i.version
 v2:i.version<=M.aW
 c1:i.au.size<=80
theorem Dz {i:M.Item}(h:M.pZ i=true):vJ i:=by
 simp only[M.pZ,decide_eq_true_eq] at h
 exact⟨h.1,h.2.1,h.2.2.1,h.2.2.2.1,h.2.2.2.2⟩
structure oh (a:M.aU):Prop where
 k0:0<=a.kind
 k1:a.kind<=11
 e0:0<=a.err
 e1:a.err<=15
 t0:0<=a.token
 t1:a.token<=M.aW
 v0:0<=a.version
 v1:a.version<=M.aW
 c1:a.au.size<=80
 i0:0<=a.index
 i1:a.index<=247
 l1:a.items.length<=2
 its:∀ i,i∈a.items->vJ i
theorem kE {a:M.aU}(h:M.bH a=true):oh a:=by
 simp only[M.bH,Bool.and_eq_true,decide_eq_true_eq,List.all_eq_true] at h
 obtain⟨⟨h1,h2,h3,h4,h5,h6,h7,h8,h9,h10,h11,h12⟩,h13⟩:=h
 exact⟨h1,h2,h3,h4,h5,h6,h7,h8,h9,h10,h11,h12,λi hi=>Dz (h13 i hi)⟩
theorem lX (b:Bool):0<=En.bit b/\En.bit b<=1:=by cases b<;>simp[En.bit]
theorem yx (i:M.Item):(En.ij i).length<=i.uid.size+i.au.size+12:=by
 have:=(cH i.version).2
 simp[En.ij,txt]
 omega
theorem pd {l:List M.Item}(h:∀ i,i∈l->vJ i):(l.flatMap En.ij).length<=96*l.length:=by
 induction l with
 | nil=>simp
 | cons x l ih =>
  have h1:=ih λi hi=>h i (List.mem_cons_of_mem _ hi)
  have h2:=h x (by simp)
  have h3:=yx x
  have h4:=h2.u2
  have h5:=h2.c1
  simp only[List.flatMap_cons,List.length_append,List.length_cons]
  omega
theorem lF {a:M.aU}(h:oh a):(En.eu a).length<=295:=by
 have h1:=pd h.its
 have h2:=h.l1
 have h3:=h.c1
 have h4:(En.eu a).length<=a.au.size+(a.items.flatMap En.ij).length+23:=by
  have:=(cH a.token).2
  have:=(cH a.version).2
  unfold En.eu txt
  simp only[List.length_cons,List.length_append,Array.length_toList,ByteArray.size_data]
  omega
 omega
structure Ly (w W:World)(a:M.aU)(vi v:Value)(l:List UInt8):Prop where
 fr:Fr [] w W
 box:Holds W w.heap.size 55 (Ev.rsc a vi).toArray
 out:BIn W v l
theorem Ly.go {w W W':World}{a:M.aU}{vi v v':Value}{l l':List UInt8}(h:Ly w W a vi v l)(hf:Fr [] W W')(ho:ln W W' v' l'):Ly w W' a vi v' l':=⟨h.fr.trans hf,h.box.fr hf (by simp),ho.bin⟩
theorem Ly.fr0 {w W W':World}{a:M.aU}{vi v:Value}{l:List UInt8}(h:Ly w W a vi v l)(hf:Fr [] W W'):Ly w W' a vi v l:=⟨h.fr.trans hf,h.box.fr hf (by simp),h.out.fr hf⟩
def j4 (a:M.aU):List UInt8:=nb a.err::(ed a.token++ed a.version++(txt a.au++[nb a.index,nb (En.bit a.more),nb a.items.length]))
theorem pg (a:M.aU):(j4 a).length<=a.au.size+23/\7<=(j4 a).length:=by
 have h1:=cH a.token
 have h2:=cH a.version
 simp[j4,txt]
 omega
theorem rv (a:M.aU):En.eu a=j4 a++a.items.flatMap En.ij:=by simp[En.eu,j4]
theorem wi (w:World)(B:Nat)(a:M.aU)(vi:Value)(h:Ev.aV w B vi a.items)(ok:oh a) :
  Calls prog 124 #[.agg (Ev.rsc a vi).toArray] w λe w'=>∃ v,e = .returned v/\BIn w' v (En.eu a)/\Fr [] w w':=by
 obtain⟨ai,ci,rfl⟩:=h.form
 obtain⟨W,hW⟩:∃ W,W=w.alloc (.cells (Ev.rsc a (.slice ai a.items.length ci)).toArray 55):=⟨_,rfl⟩
 have G0:Ly w W a (.slice ai a.items.length ci) (.slice none 0 0) []:=by rw[hW];exact⟨rZ.alloc _,Holds.new _ _ _,BIn.nil _⟩
 have q1:=G0.box.cell 1
 simp[Ev.rsc] at q1
 have OK:=hid ok
 have HH:=hid h
 have he0:=ok.e0
 have he1:=ok.e1
 have ht0:=ok.t0
 have ht1:=ok.t1
 have hv0:=ok.v0
 have hv1:=ok.v1
 have hc1:=ok.c1
 have hi0:=ok.i0
 have hi1:=ok.i1
 have hl1:=ok.l1
 have hb:=lX a.more
 have nl1:=(cH a.token).2
 have nl2:=(cH a.version).2
 simp only[Ev.rsc] at hW ⊢
 clear h ok
 go_enter func124,ntmps124
 go_wp2_with fail
 rw[<-hW]
 go_wp2_with fail
 refine(fM W _ _ a.err G0.out (by simp) he0 (by omega)).mono ?_
 rintro e w1 ⟨v1,rfl,o1,f1⟩
 have G1:=G0.go f1 o1
 have q2:=G1.box.cell 2
 simp[Ev.rsc] at q2
 clear hW G0 f1 o1 q1
 go_wp2_with fail
 refine(bP w1 _ _ a.token G1.out (by simp) ht0 ht1).mono ?_
 rintro e w2 ⟨v2,rfl,o2,f2⟩
 have G2:=G1.go f2 o2
 have q3:=G2.box.cell 3
 simp[Ev.rsc] at q3
 clear G1 f2 o2 q2
 go_wp2_with fail
 refine(bP w2 _ _ a.version G2.out (by simp;omega) hv0 hv1).mono ?_
 rintro e w3 ⟨v3,rfl,o3,f3⟩
 have G3:=G2.go f3 o3
 have q4:=G3.box.cell 4
 simp[Ev.rsc] at q4
 clear G2 f3 o3 q3
 go_wp2_with fail
 refine(aN w3 _ _ a.au G3.out (by simp;omega) (by omega)).mono ?_
 rintro e w4 ⟨v4,rfl,o4,f4⟩
 have G4:=G3.go f4 o4
 have q5:=G4.box.cell 5
 simp[Ev.rsc] at q5
 clear G3 f4 o4 q4
 go_wp2_with fail
 refine(fM w4 _ _ a.index G4.out (by simp[txt];omega) hi0 (by omega)).mono ?_
 rintro e w5 ⟨v5,rfl,o5,f5⟩
 have G5:=G4.go f5 o5
 have q6:=G5.box.cell 6
 simp[Ev.rsc] at q6
 clear G4 f5 o5 q5
 go_wp2_with fail
 refine(jU w5 a.more).mono ?_
 rintro e w6' ⟨rfl,rfl⟩
 go_wp2_with fail
 refine(fM w5 _ _ (En.bit a.more) G5.out (by simp[txt];omega) (by omega) (by omega)).mono ?_
 rintro e w6 ⟨v6,rfl,o6,f6⟩
 have G6:=G5.go f6 o6
 have q7:=G6.box.cell 7
 simp[Ev.rsc] at q7
 clear G5 f6 o6 q6
 go_wp2_with fail
 refine(fM w6 _ _ (a.items.length:Int) G6.out (by simp[txt];omega) (by omega) (by omega)).mono ?_
 rintro e w7 ⟨v7,rfl,o7,f7⟩
 have G7:=G6.go f7 o7
 have q7:=G7.box.cell 7
 simp[Ev.rsc] at q7
 clear G6 f7 o7
 have G8:Ly w w7 a (.slice ai a.items.length ci) v7 (j4 a++(a.items.take 0).flatMap En.ij):=by simpa[j4] using G7
 clear G7
 go_wp2_with fail
 go_loopw [3,38] (λb i wr=>∃ k:Nat,k<=a.items.length/\i = .int .i64 k/\Ly w wr a (.slice ai a.items.length ci) b (j4 a++(a.items.take k).flatMap En.ij)) (λ_ i _=>a.items.length - (intOf i).toNat)
 case atStart=>exact⟨0,Nat.zero_le _,rfl,G8⟩
 obtain⟨k,hk,rfl,G⟩:=hrel
 clear q7 G8
 by_cases hlt:k<a.items.length
 ·have hx:a.items[k]? = some a.items[k]:=List.getElem?_eq_getElem hlt
  obtain⟨x,hx'⟩:∃ x,a.items[k]=x:=⟨_,rfl⟩
  rw[hx'] at hx
  have hk1:(k:Int)<(a.items.length:Int):=by omega
  have HD:=hid (show (a.items.take (k+1)).flatMap En.ij=(a.items.take k).flatMap En.ij++En.ij x by rw[List.take_succ,hx];simp)
  obtain⟨g,c2,hg,hv,hgl,z0,z1,z2,z3⟩:=kO (HH.fr0 G.fr) hx
  cases hv
  have okx:=OK.its x (List.mem_of_getElem? hx)
  have hu2:=okx.u2
  have hvx0:=okx.v1
  have hvx1:=okx.v2
  have hcx:=okx.c1
  have hbx:=lX x.gone
  have nlx:=(cH x.version).2
  have hlen:(j4 a++(a.items.take k).flatMap En.ij).length<=400:=by
   have h1:=pd (l:=a.items.take k) λi hi=>OK.its i (List.mem_of_mem_take hi)
   have h2:=pg a
   rw[List.length_append]
   simp only[List.length_take] at h1
   have:=OK.c1
   omega
  obtain⟨L,hL⟩:∃ L,j4 a++(a.items.take k).flatMap En.ij=L:=⟨_,rfl⟩
  rw[hL] at G hlen
  have HL:=hid hL
  clear hx hx' hL okx
  obtain⟨W2,hW2⟩:∃ W2,W2=wr.alloc (.cells (Ev.ic x).toArray 59):=⟨_,rfl⟩
  have f1:Fr [] wr W2:=by rw[hW2];exact rZ.alloc _
  have b1:Holds W2 wr.heap.size 59 (Ev.ic x).toArray:=by rw[hW2];exact Holds.new _ _ _
  have H1:=G.fr0 f1
  have d0:=b1.cell 0
  simp[Ev.ic] at d0
  simp only[Ev.ic] at hW2
  go_wp2_with fail
  rw[<-hW2]
  go_wp2_with fail
  refine(aN W2 _ _ x.uid H1.out (by omega) (by omega)).mono ?_
  rintro e w1 ⟨v1,rfl,o1,f1'⟩
  have H2:=H1.go f1' o1
  have b2:=b1.fr f1' (by simp)
  have d1:=b2.cell 1
  simp[Ev.ic] at d1
  clear hW2 H1 o1 f1' b1 d0
  go_wp2_with fail
  refine(bP w1 _ _ x.version H2.out (by simp[txt];omega) hvx0 hvx1).mono ?_
  rintro e w2 ⟨v2,rfl,o2,f2'⟩
  have H3:=H2.go f2' o2
  have b3:=b2.fr f2' (by simp)
  have d2:=b3.cell 2
  simp[Ev.ic] at d2
  clear H2 o2 f2' b2 d1
  go_wp2_with fail
  refine(jU w2 x.gone).mono ?_
  rintro e w3' ⟨rfl,rfl⟩
  go_wp2_with fail
  refine(fM w2 _ _ (En.bit x.gone) H3.out (by simp[txt];omega) (by omega) (by omega)).mono ?_
  rintro e w3 ⟨v3,rfl,o3,f3'⟩
  have H4:=H3.go f3' o3
  have b4:=b3.fr f3' (by simp)
  have d3:=b4.cell 3
  simp[Ev.ic] at d3
  clear H3 o3 f3' b3 d2
  go_wp2_with fail
  refine(aN w3 _ _ x.au H4.out (by simp[txt];omega) (by omega)).mono ?_
  rintro e w4 ⟨v4,rfl,o4,f4'⟩
  have H5:=H4.go f4' o4
  clear H4 o4 f4' b4 d3
  go_wp2_with fail
  go_roundw
  case rel=>exact⟨k+1,by omega,by go_num,by
   rw[HD,<-List.append_assoc,HL]
   simpa[En.ij] using H5⟩
  simp[intOf];omega
 obtain rfl:k=a.items.length:=by omega
 go_wp2
 go_ret
 exact⟨_,rfl,by rw[rv];simpa using G.out,G.fr⟩
theorem dM (w:World)(B:Nat)(a:M.aU)(vi:Value)(h:Ev.aV w B vi a.items)(ok:oh a) :
  Calls prog 123 #[.agg (Ev.rsc a vi).toArray] w λe w'=>e = .returned (.int .i64 0)/\Fr [] w w':=by
 obtain⟨ai,ci,rfl⟩:=h.form
 obtain⟨W,hW⟩:∃ W,W=w.alloc (.cells (Ev.rsc a (.slice ai a.items.length ci)).toArray 55):=⟨_,rfl⟩
 have fW:Fr [] w W:=by rw[hW];exact rZ.alloc _
 have b0:Holds W w.heap.size 55 (Ev.rsc a (.slice ai a.items.length ci)).toArray:=by rw[hW];exact Holds.new _ _ _
 have q0:=b0.cell 0
 have q1:=b0.cell 1
 have q2:=b0.cell 2
 have q3:=b0.cell 3
 have q4:=b0.cell 4
 have q5:=b0.cell 5
 have q7:=b0.cell 7
 simp[Ev.rsc] at q0 q1 q2 q3 q4 q5 q7
 have OK:=hid ok
 have HH:=hid h
 have d1:decide (a.kind<0)=false:=decide_eq_false (by have:=ok.k0;omega)
 have d2:decide (a.kind > 11)=false:=decide_eq_false (by have:=ok.k1;omega)
 have d3:decide (a.err<0)=false:=decide_eq_false (by have:=ok.e0;omega)
 have d4:decide (a.err > 15)=false:=decide_eq_false (by have:=ok.e1;omega)
 have d5:decide (a.token<0)=false:=decide_eq_false (by have:=ok.t0;omega)
 have d6:decide (a.version<0)=false:=decide_eq_false (by have:=ok.v0;omega)
 have d7:decide (a.index<0)=false:=decide_eq_false (by have:=ok.i0;omega)
 have d8:decide (a.index > 2147483647)=false:=decide_eq_false (by have:=ok.i1;omega)
 have d9:decide ((a.items.length:Int) > 100)=false:=decide_eq_false (by have:=ok.l1;omega)
 have d10:decide ((a.au.size:Int) > 900)=false:=decide_eq_false (by have:=ok.c1;omega)
 have hl1:=ok.l1
 have hc1:=ok.c1
 have HL:=hid (λw' (f:Fr [] w w')=>wi w' B a (.slice ai a.items.length ci) (h.fr0 f) ok)
 have hln:=lF ok
 simp only[Ev.rsc] at hW HL ⊢
 clear h ok
 go_enter func123,ntmps123
 go_wp2_with fail
 rw[<-hW]
 go_wp2_with fail
 clear d1 d2 d3 d4 d5 d6 d7 d8 d9 q0 q1 q2 q3 q5
 go_loopw [54] (λi wr=>∃ k:Nat,k<=a.items.length/\i = .int .i64 k/\Fr [] W wr) (λi _=>a.items.length - (intOf i).toNat)
 case atStart=>exact⟨0,Nat.zero_le _,rfl,rZ⟩
 obtain⟨k,hk,rfl,fr⟩:=hrel
 by_cases hlt:k<a.items.length
 ·have hx:a.items[k]? = some a.items[k]:=List.getElem?_eq_getElem hlt
  obtain⟨x,hx'⟩:∃ x,a.items[k]=x:=⟨_,rfl⟩
  rw[hx'] at hx
  have hk1:(k:Int)<(a.items.length:Int):=by omega
  obtain⟨g,c2,hg,hv,hgl,z0,z1,z2,z3⟩:=kO (HH.fr0 (fW.trans fr)) hx
  cases hv
  have okx:=OK.its x (List.mem_of_getElem? hx)
  have e1:decide (x.version<0)=false:=decide_eq_false (by have:=okx.v1;omega)
  have hv1:=okx.v1
  clear hx hx' okx hW
  go_wp2_with fail
  go_roundw
  case rel=>exact⟨k+1,by omega,by go_num,fr.trans (rZ.alloc _)⟩
  simp[intOf];omega
 obtain rfl:k=a.items.length:=by omega
 have p4:=fr.cell q4 (block_lt_of_cell q4) (by simp)
 have p7:=fr.cell q7 (block_lt_of_cell q7) (by simp)
 clear hW q4 q7
 go_wp2_with fail
 go_loopw [69] (λi ws=>∃ k:Nat,k<=a.items.length/\i = .int .i64 k/\Fr [] wr ws) (λi _=>a.items.length - (intOf i).toNat)
 case atStart=>exact⟨0,Nat.zero_le _,rfl,rZ⟩
 obtain⟨k,hk,rfl,fs⟩:=hrel
 clear p4 p7
 by_cases hlt:k<a.items.length
 ·have hx:a.items[k]? = some a.items[k]:=List.getElem?_eq_getElem hlt
  obtain⟨x,hx'⟩:∃ x,a.items[k]=x:=⟨_,rfl⟩
  rw[hx'] at hx
  have hk1:(k:Int)<(a.items.length:Int):=by omega
  obtain⟨g,c2,hg,hv,hgl,z0,z1,z2,z3⟩:=kO (HH.fr0 (fW.trans (fr.trans fs))) hx
  cases hv
  have okx:=OK.its x (List.mem_of_getElem? hx)
  have e1:decide ((x.au.size:Int) > 900)=false:=decide_eq_false (by have:=okx.c1;omega)
  have e2:decide ((x.uid.size:Int) > 24)=false:=decide_eq_false (by have:=okx.u2;omega)
  clear hx hx' okx
  go_wp2_with fail
  go_roundw
  case rel=>exact⟨k+1,by omega,by go_num,fs.trans (rZ.alloc _)⟩
  simp[intOf];omega
 obtain rfl:k=a.items.length:=by omega
 have b5:=b0.fr (fr.trans fs) (by simp)
 obtain⟨r0,r1,r2,r3,r4,r5,r6,r7⟩:=b5.cs8
 simp[Ev.rsc] at r0 r1 r2 r3 r4 r5 r6 r7
 go_wp2_with fail
 refine(HL _ (fW.trans (fr.trans fs))).mono ?_
 rintro e w3 ⟨v,rfl,⟨av,nv,cv,rfl,hnv,-⟩,f3⟩
 have hnn:decide ((nv:Int) > 20000)=false:=decide_eq_false (by omega)
 go_wp2_with fail
 go_ret
 exact⟨rfl,(fW.trans (fr.trans fs)).trans f3⟩
theorem uT (w:World)(B:Nat)(a:M.aU)(vi:Value)(h:Ev.aV w B vi a.items)(ok:oh a) :
  Calls prog 90 #[.agg (Ev.rsc a vi).toArray] w λe w'=>∃ v,e = .returned (.tuple #[v,.int .i64 0])/\BIn w' v (En.eu a)/\Fr [] w w':=by
 obtain⟨ai,ci,rfl⟩:=h.form
 obtain⟨W,hW⟩:∃ W,W=w.alloc (.cells (Ev.rsc a (.slice ai a.items.length ci)).toArray 55):=⟨_,rfl⟩
 have fW:Fr [] w W:=by rw[hW];exact rZ.alloc _
 have b0:Holds W w.heap.size 55 (Ev.rsc a (.slice ai a.items.length ci)).toArray:=by rw[hW];exact Holds.new _ _ _
 have HC:=hid (dM W B a (.slice ai a.items.length ci) (h.fr0 fW) ok)
 have HL:=hid (λw' (f:Fr [] w w')=>wi w' B a (.slice ai a.items.length ci) (h.fr0 f) ok)
 obtain⟨r0,r1,r2,r3,r4,r5,r6,r7⟩:=b0.cs8
 simp[Ev.rsc] at r0 r1 r2 r3 r4 r5 r6 r7
 simp only[Ev.rsc] at hW HL HC ⊢
 clear h ok
 go_enter func90,ntmps90
 go_wp2_with fail
 rw[<-hW]
 go_wp2_with fail
 refine uu HC λw1 f1=>?_
 have b1:=b0.fr f1 (by simp)
 clear r0 r1 r2 r3 r4 r5 r6 r7
 obtain⟨r0,r1,r2,r3,r4,r5,r6,r7⟩:=b1.cs8
 simp[Ev.rsc] at r0 r1 r2 r3 r4 r5 r6 r7
 go_wp2_with fail
 refine(HL _ (fW.trans f1)).mono ?_
 rintro e w2 ⟨v,rfl,hb,f2⟩
 go_wp2_with fail
 go_ret2
 exact⟨v,rfl,hb,(fW.trans f1).trans f2⟩
end Rp
