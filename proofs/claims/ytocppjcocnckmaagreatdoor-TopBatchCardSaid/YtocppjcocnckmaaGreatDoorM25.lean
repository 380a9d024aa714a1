/- Walks. -/
import Derived.Test.YtocppjcocnckmaaGreatDoorM15
import Derived.Test.YtocppjcocnckmaaGreatDoorM19
import Derived.BigQuiet
import Derived.IntWalk
set_option maxRecDepth 100000
set_option maxHeartbeats 8000000
set_option linter.all false
open Go.Lib (hid)
namespace Go.Proofs.YtocppjcocnckmaaGreatDoor
open Go.Proofs.Tryz
namespace Lo
open Go.RowKit
theorem df.frx {w w':World}{B g:Nat}{l:M.Lk}{Us:List TypeId}(h:df w B g l)(hf:FrX B Us [] w w')(ht:∀ t,t∈Ts->t∉Us):df w' B g l:=by
 obtain⟨a,b,vr,vq,h1,h2,h3⟩:=h
 exact⟨a,b,vr,vq,h1.frx hf (ht _ (by simp)) (by simp),h2.bf hf (ht _ (by simp)),h3.bf hf (ht _ (by simp))⟩
end Lo
namespace Cr
open Go.RowKit
structure Cf where
 ag:Int
 start:Int
 room:Int
 dD:Nat
def ew (k:Cf)(x:M.Core):List Value:=[.int .i64 k.ag,.int .i64 k.start,.int .i64 k.room,.int .i64 k.dD,.int .i64 x.bQ,.int .i64 x.ah,.int .i64 x.aH,.int .i64 x.aj]
def tn : ByteArray := M.bs "ann"
def key:ByteArray:=Id.keyOf tn M.home
structure gH (w:World)(B q:Nat)(p:M.Place):Prop where
 at_:∃ cg lg,B<=cg/\B<=lg/\Holds w q 200 #[.string tn,.string M.home,.pointer (some ⟨cg,0,none⟩),.pointer (some ⟨lg,0,none⟩),.bool p.alive,.int .i64 p.drawn]/\Co.bX w B cg p.col/\Lo.df w B lg p.lock
def lh (w:World)(B:Nat)(v:Value):Option M.Place->Prop
 | none=>Own w B 195 1 v 0 []
 | some p=>∃ q,B<=q/\Own w B 195 1 v 1 [.pointer (some ⟨q,0,none⟩)]/\gH w B q p
def mC (w:World)(B bg:Nat)(c d b l:Int):Option (Int × Int)->Prop
 | none=>Ob.aQ w B bg []
 | some y=>∃ q,B<=q/\Ob.aQ w B bg [(tn,.pointer (some ⟨q,0,none⟩))]/\Bu.j7 w q c d b l y.1 y.2
def bK (found:Bool):List Oi.Ent:=if found then [(key,.int .i64 0)] else []
structure bz (w:World)(B g:Nat)(k:Cf)(x:M.Core)(vp:Value)(rg bg hg cg:Nat):Prop where
 brg:B<=rg
 bbg:B<=bg
 bhg:B<=hg
 bcg:B<=cg
 cell:Holds w g 143 #[.int .i64 k.ag,.int .i64 k.start,.int .i64 k.room,.int .i64 k.dD,.int .i64 x.bQ,.int .i64 x.ah,.int .i64 x.aH,.int .i64 x.aj,.int .i64 x.counter,vp,.pointer (some ⟨rg,0,none⟩),.pointer (some ⟨bg,0,none⟩),.pointer (some ⟨hg,0,none⟩),.pointer (some ⟨cg,0,none⟩)]
 pls:lh w B vp x.place
 reg:Rk.fy w B rg k.dD (Rk.cD key k.dD) (bK x.found)
 bug:mC w B bg x.bQ x.ah x.aH x.aj x.aZ
 hub:Hb.HAt w B hg x.hub
 clk:Ck.cJ w B cg x.now x.ct
def aF (w:World)(B g:Nat)(k:Cf)(x:M.Core):Prop:=∃ vp rg bg hg cg,bz w B g k x vp rg bg hg cg
abbrev PTs:List TypeId:=200::195::(Co.Ts++Lo.Ts)
abbrev BTs:List TypeId:=[176,334,294]
abbrev Ts:List TypeId:=143::(PTs++(BTs++(Rk.Ts++(Hb.Ts++Ck.Ts))))
section
variable {w w':World} {B g:Nat} {k:Cf} {x:M.Core} {vp:Value} {rg bg hg cg:Nat} {Us:List TypeId}
theorem gH.frx {q:Nat}{p:M.Place}(h:gH w B q p)(hf:FrX B Us [] w w')(ht:∀ t,t∈PTs->t∉Us):gH w' B q p:=by
 obtain⟨c,l,h1,h2,h3,h4,h5⟩:=h
 exact⟨c,l,h1,h2,h3.frx hf (ht _ (by simp)) (by simp),h4.frx hf (λt h=>ht t ((by decide:∀ t,t∈Co.Ts->t∈PTs) t h)),h5.frx hf (λt h=>ht t ((by decide:∀ t,t∈Lo.Ts->t∈PTs) t h))⟩
theorem gH.fr0 {q:Nat}{p:M.Place}(h:gH w B q p)(hf:Fr [] w w'):gH w' B q p:=by
 obtain⟨c,l,h1,h2,h3,h4,h5⟩:=h
 exact⟨c,l,h1,h2,h3.fr hf (by simp),h4.fr0 hf,h5.fr0 hf⟩
theorem lh.frx {v:Value}{o:Option M.Place}(h:lh w B v o)(hf:FrX B Us [] w w')(ht:∀ t,t∈PTs->t∉Us):lh w' B v o:=by
 cases o with
 | none=>exact Own.bf h hf (ht _ (by simp))
 | some p =>
  obtain⟨q,h1,h2,h3⟩:=h
  exact⟨q,h1,h2.bf hf (ht _ (by simp)),h3.frx hf ht⟩
theorem lh.fr0 {v:Value}{o:Option M.Place}(h:lh w B v o)(hf:Fr [] w w'):lh w' B v o:=by
 cases o with
 | none=>exact Own.fr0 h hf
 | some p =>
  obtain⟨q,h1,h2,h3⟩:=h
  exact⟨q,h1,h2.fr0 hf,h3.fr0 hf⟩
theorem mC.frx {c d b l:Int}{o:Option (Int × Int)}(h:mC w B bg c d b l o)(hf:FrX B Us [] w w')(ht:∀ t,t∈BTs->t∉Us):mC w' B bg c d b l o:=by
 cases o with
 | none=>exact Ob.aQ.frx h hf (ht _ (by simp)) (ht _ (by simp)) (by simp)
 | some p =>
  obtain⟨q,h1,h2,h3⟩:=h
  exact⟨q,h1,h2.frx hf (ht _ (by simp)) (ht _ (by simp)) (by simp),Holds.frx h3 hf (ht _ (by simp)) (by simp)⟩
theorem mC.fr0 {c d b l:Int}{o:Option (Int × Int)}(h:mC w B bg c d b l o)(hf:Fr [] w w'):mC w' B bg c d b l o:=by
 cases o with
 | none=>exact Ob.aQ.fr0 h hf
 | some p =>
  obtain⟨q,h1,h2,h3⟩:=h
  exact⟨q,h1,h2.fr0 hf,Holds.fr h3 hf (by simp)⟩
theorem bz.fr0 (h:bz w B g k x vp rg bg hg cg)(hf:Fr [] w w'):bz w' B g k x vp rg bg hg cg :=
 ⟨h.brg,h.bbg,h.bhg,h.bcg,h.cell.fr hf (by simp),h.pls.fr0 hf,h.reg.fr0 hf,h.bug.fr0 hf,h.hub.fr0 hf,h.clk.fr0 hf⟩
theorem bz.frx (h:bz w B g k x vp rg bg hg cg)(hf:FrX B Us [] w w')(ht:∀ t,t∈Ts->t∉Us):bz w' B g k x vp rg bg hg cg :=
 ⟨h.brg,h.bbg,h.bhg,h.bcg,h.cell.frx hf (ht _ (by simp)) (by simp),h.pls.frx hf (λt h=>ht t ((by decide:∀ t,t∈PTs->t∈Ts) t h)),h.reg.frx hf (λt h=>ht t ((by decide:∀ t,t∈Rk.Ts->t∈Ts) t h)),h.bug.frx hf (λt h=>ht t ((by decide:∀ t,t∈BTs->t∈Ts) t h)),h.hub.frx hf (ht _ (by simp)) (ht _ (by simp)),h.clk.frx hf (ht _ (by simp)) (ht _ (by simp))⟩
theorem aF.fr0 (h:aF w B g k x)(hf:Fr [] w w'):aF w' B g k x:=by
 obtain⟨a,b,c,d,e,h⟩:=h
 exact⟨a,b,c,d,e,h.fr0 hf⟩
theorem aF.frx (h:aF w B g k x)(hf:FrX B Us [] w w')(ht:∀ t,t∈Ts->t∉Us):aF w' B g k x:=by
 obtain⟨a,b,c,d,e,h⟩:=h
 exact⟨a,b,c,d,e,h.frx hf ht⟩
theorem bz.Cq (h:bz w B g k x vp rg bg hg cg)(hf:FrX B Hb.Ts [] w w'){l:List M.Wt}(hh:Hb.HAt w' B hg l):bz w' B g k { x with hub:=l } vp rg bg hg cg :=
 ⟨h.brg,h.bbg,h.bhg,h.bcg,h.cell.frx hf (by decide) (by simp),h.pls.frx hf (by decide),h.reg.frx hf (by decide),h.bug.frx hf (by decide),hh,h.clk.frx hf (by decide) (by decide)⟩
theorem bz.Ex (h:bz w B g k x vp rg bg hg cg)(hf:FrX B Ck.Ts [] w w'){n:Int}{l:List (Int × Int)}(hh:Ck.cJ w' B cg n l):bz w' B g k { x with now:=n,ct:=l } vp rg bg hg cg :=
 ⟨h.brg,h.bbg,h.bhg,h.bcg,h.cell.frx hf (by decide) (by simp),h.pls.frx hf (by decide),h.reg.frx hf (by decide),h.bug.frx hf (by decide),h.hub.frx hf (by decide) (by decide),hh⟩
theorem bz.Cm (h:bz w B g k x vp rg bg hg cg)(hf:FrX B PTs [] w w'){o:Option M.Place}(hh:lh w' B vp o):bz w' B g k { x with place:=o } vp rg bg hg cg :=
 ⟨h.brg,h.bbg,h.bhg,h.bcg,h.cell.frx hf (by decide) (by simp),hh,h.reg.frx hf (by decide),h.bug.frx hf (by decide),h.hub.frx hf (by decide) (by decide),h.clk.frx hf (by decide) (by decide)⟩
theorem bz.Cs (h:bz w B g k x vp rg bg hg cg)(hf:FrX B BTs [] w w'){o:Option (Int × Int)}(hh:mC w' B bg x.bQ x.ah x.aH x.aj o):bz w' B g k { x with aZ:=o } vp rg bg hg cg :=
 ⟨h.brg,h.bbg,h.bhg,h.bcg,h.cell.frx hf (by decide) (by simp),h.pls.frx hf (by decide),h.reg.frx hf (by decide),hh,h.hub.frx hf (by decide) (by decide),h.clk.frx hf (by decide) (by decide)⟩
theorem bz.Gq (h:bz w B g k x vp rg bg hg cg)(hf:FrX B Rk.Ts [] w w'){b:Bool}(hh:Rk.fy w' B rg k.dD (Rk.cD key k.dD) (bK b)):bz w' B g k { x with found:=b } vp rg bg hg cg :=
 ⟨h.brg,h.bbg,h.bhg,h.bcg,h.cell.frx hf (by decide) (by simp),h.pls.frx hf (by decide),hh,h.bug.frx hf (by decide),h.hub.frx hf (by decide) (by decide),h.clk.frx hf (by decide) (by decide)⟩
theorem bz.zj (h:bz w B g k x vp rg bg hg cg)(hg':B<=g)(n:Int):bz (w.setCell ⟨g,8,none⟩ (.int .i64 n)) B g k { x with counter:=n } vp rg bg hg cg/\FrX B [143] [] w (w.setCell ⟨g,8,none⟩ (.int .i64 n)):=by
 have hf:FrX B [143] [] w (w.setCell ⟨g,8,none⟩ (.int .i64 n)):=FrX.aB ((Fr.refl [g] w).setCell (by simp) _) (by simpa using hg') (λy hy=>⟨143,by simp,by simp at hy;subst hy;exact h.cell.ty⟩)
 exact⟨⟨h.brg,h.bbg,h.bhg,h.bcg,by simpa using h.cell.set 8 (.int .i64 n),h.pls.frx hf (by decide),h.reg.frx hf (by decide),h.bug.frx hf (by decide),h.hub.frx hf (by decide) (by decide),h.clk.frx hf (by decide) (by decide)⟩,hf⟩
end
end Cr
namespace Tk
open Go.RowKit Cr
def aO (xp:Nat)(who:Int)(t:M.Task)(vo vi:Value):List Value :=
 [.pointer (some ⟨xp,0,none⟩),.int .i64 who,.string tn,.int .i64 t.q.kind,.string t.q.aR,.string t.q.col,.string t.q.uid,.string t.q.au,.int .i64 t.q.ck,.int .i64 t.q.cv,vo,.int .i64 t.q.token,.int .i64 t.q.aD,.int .i64 t.q.bj,.int .i64 t.deadline,.int .i64 t.ax,.int .i64 t.id,.int .i64 t.aM.kind,.int .i64 t.aM.err,.int .i64 t.aM.token,.int .i64 t.aM.version,.string t.aM.au,.int .i64 t.aM.index,.bool t.aM.more,vi,.bool t.aX,.int .i64 t.next,.bool false]
structure cY (w:World)(B g xp:Nat)(who:Int)(t:M.Task)(vo vi:Value):Prop where
 cell:Holds w g 153 (aO xp who t vo vi).toArray
 ops:Ev.bD w B vo t.q.ops
 its:Ev.aV w B vi t.aM.items
 l1:t.q.ops.length<=20
 l2:t.aM.items.length<=20
def cU (w:World)(B g xp:Nat)(who:Int)(t:M.Task):Prop:=∃ vo vi,cY w B g xp who t vo vi
section
variable {w w':World} {B g xp:Nat} {who:Int} {t:M.Task} {vo vi:Value} {Us:List TypeId} {S:List Nat}
theorem cY.frx (h:cY w B g xp who t vo vi)(hf:FrX B Us [] w w')(h1:153∉Us)(h2:43∉Us)(h3:59∉Us):cY w' B g xp who t vo vi :=
 ⟨h.cell.frx hf h1 (by simp),h.ops.bf hf h2,h.its.bf hf h3,h.l1,h.l2⟩
theorem cY.fr0 (h:cY w B g xp who t vo vi)(hf:Fr [] w w'):cY w' B g xp who t vo vi :=
 ⟨h.cell.fr hf (by simp),h.ops.fr0 hf,h.its.fr0 hf,h.l1,h.l2⟩
end
end Tk
namespace Sv
open Go.RowKit Cr
structure Blk where
 c:Nat
 se:Nat
 pi:Nat
 po:Nat
 ta:Option Nat
structure Cx where
 tv:Value
 pF:Int
 seq:Int
 kind:Int
 q:M.Req
 vo:Value
 err:Int
 fr:ByteArray
 rp:M.aU
 vi:Value
 last:Bool
def bA (b:Blk)(st:Int)(x:Cx):List Value :=
 [.int .i64 st,.pointer (some ⟨b.se,0,none⟩),.pointer (some ⟨b.po,0,none⟩),x.tv,.int .i64 x.pF,.int .i64 x.seq,.int .i64 x.kind,.int .i64 x.q.kind,.string x.q.aR,.string x.q.col,.string x.q.uid,.string x.q.au,.int .i64 x.q.ck,.int .i64 x.q.cv,x.vo,.int .i64 x.q.token,.int .i64 x.q.aD,.int .i64 x.q.bj,.int .i64 x.err,.string x.fr,.int .i64 x.rp.kind,.int .i64 x.rp.err,.int .i64 x.rp.token,.int .i64 x.rp.version,.string x.rp.au,.int .i64 x.rp.index,.bool x.rp.more,x.vi,.bool x.last]
def jX (b:Bool):ByteArray:=if b then tn else ⟨#[]⟩
def kB (m:M.bT):ByteArray:=En.bytesOf (m.todo.flatMap En.bU)
def eF (m:M.bT):ByteArray:=En.bytesOf (m.out.flatMap En.bE)
structure db (w:World)(B xp:Nat)(room:Int)(b:Blk)(who:Int)(m:M.bT)(x:Cx):Prop where
 bc:B<=b.c
 bse:B<=b.se
 bpi:B<=b.pi
 bpo:B<=b.po
 cell:Holds w b.c 112 (bA b m.state x).toArray
 ka:Holds w b.se 184 #[.pointer (some ⟨b.pi,0,none⟩),.string (jX m.bound),.int .i64 m.seq,.bool false]
 inp:Pi.bw w b.pi room (kB m) false
 fK:Pi.bw w b.po room (eF m) false
 ta:m.state=2->∃ ta,b.ta=some ta/\B<=ta/\x.tv = .pointer (some ⟨ta,0,none⟩)/\Tk.cU w B ta xp who m.task
 dh:m.state=2∨m.state=3->x.pF=1/\x.seq=m.seq/\x.q=m.dh/\Ev.bD w B x.vo m.dh.ops/\m.dh.ops.length<=20
 nta:m.state≠2->b.ta=none
 tk:m.state=2->m.task.q.kind≠1
 ans:m.state=3->x.fr=En.bytesOf (En.bE m.cL)/\x.rp=m.cL/\Ev.aV w B x.vi m.cL.items/\m.cL.items.length<=20/\x.last=false
def CF (w:World)(B xp:Nat)(room:Int)(b:Blk)(who:Int)(m:M.bT):Prop:=∃ x,db w B xp room b who m x
section
variable {w w':World} {B xp:Nat} {room:Int} {b:Blk} {who:Int} {m:M.bT} {x:Cx} {Us:List TypeId} {S:List Nat}
abbrev CTs:List TypeId:=[112,184,145,153,43,59]
def Blk.all (b:Blk):List Nat:=b.c::b.se::b.pi::b.po::b.ta.toList
theorem Own.frs {w w':World}{B:Nat}{e:TypeId}{sz n:Nat}{v:Value}{xs:List Value}(h:Own w B e sz v n xs)(hf:FrX B Us S w w')(ht:e∉Us)(hS:∀ g,g∈S->∀ t,cB w g=some t->t≠e):Own w' B e sz v n xs :=
 h.frx hf ht λg hg hx=>hS g hx _ (h.ty hg).1 rfl
theorem db.frx (h:db w B xp room b who m x)(hf:FrX B Us S w w')(ht:∀ t,t∈CTs->t∉Us)(hS:∀ g,g∈S->g∉b.all/\∀ t,cB w g=some t->t≠43/\t≠59):db w' B xp room b who m x:=by
 have ho:∀ {v n xs sz},Own w B 43 sz v n xs->Own w' B 43 sz v n xs:=λh=>Own.frs h hf (ht _ (by simp)) λg hg t e=>((hS g hg).2 t e).1
 have hi:∀ {v n xs sz},Own w B 59 sz v n xs->Own w' B 59 sz v n xs:=λh=>Own.frs h hf (ht _ (by simp)) λg hg t e=>((hS g hg).2 t e).2
 have hn:∀ {g},g∈b.all->g∉S:=λhg hx=>(hS _ hx).1 hg
 refine⟨h.bc,h.bse,h.bpi,h.bpo,h.cell.frx hf (ht _ (by simp)) (hn (by simp[Blk.all])),h.ka.frx hf (ht _ (by simp)) (hn (by simp[Blk.all])),Holds.frx h.inp hf (ht _ (by simp)) (hn (by simp[Blk.all])),Holds.frx h.fK hf (ht _ (by simp)) (hn (by simp[Blk.all])),λhs=>?_,λhs=>?_,h.nta,h.tk,λhs=>?_⟩
 ·obtain⟨ta,h1,h2,h3,vo,vi,h4⟩:=h.ta hs
  exact⟨ta,h1,h2,h3,vo,vi,h4.cell.frx hf (ht _ (by simp)) (hn (by simp[Blk.all,h1])),ho h4.ops,hi h4.its,h4.l1,h4.l2⟩
 ·obtain⟨h1,h2,h3,h4,h5⟩:=h.dh hs
  exact⟨h1,h2,h3,ho h4,h5⟩
 obtain⟨h1,h2,h3,h4,h5⟩:=h.ans hs
 exact⟨h1,h2,hi h3,h4,h5⟩
end
end Sv
namespace Cr
open Go.RowKit
theorem lM:key.toList.isEmpty=false/\key.size<=1000:=by decide +kernel
theorem Bf:Id.gB tn=true:=by decide +kernel
theorem sg:Id.gB M.home=true:=by decide +kernel
theorem ir (w:World)(B g:Nat)(k:Cf)(x:M.Core)(vp:Value)(rg bg hg cg:Nat)(p:M.Place)(h:bz w B g k x vp rg bg hg cg)(hp:x.place=some p) :
  Calls prog 113 #[.pointer (some ⟨g,0,none⟩),.int .i64 0] w λe w'=>(∃ q,e = .returned (.pointer (some ⟨q,0,none⟩))/\B<=q/\Own w B 195 1 vp 1 [.pointer (some ⟨q,0,none⟩)]/\gH w B q p)/\w=w':=by
 have hpl:=h.pls
 rw[hp] at hpl
 obtain⟨q,hq,ho,hpa⟩:=hpl
 obtain⟨gv,cv,hgv,rfl,hr⟩:=ho.pos (by omega)
 have c9:=h.cell.cell 9
 have y0:w.cell? ⟨gv,0,none⟩=some (.pointer (some ⟨q,0,none⟩)):=hr.cell rfl
 simp at c9
 have HO:=hid ho
 have HP:=hid hpa
 clear h hr ho hpa
 go_enter func113,ntmps113
 go_wp2_with fail
 go_ret
 exact⟨⟨q,rfl,hq,HO,HP⟩,rfl⟩
theorem bp (w:World)(B g:Nat)(k:Cf)(x:M.Core)(h:aF w B g k x) :
  Calls prog 112 #[.pointer (some ⟨g,0,none⟩),.string tn,.string M.home] w λe w'=>e = .returned (.int .i64 x.find)/\Fr [] w w':=by
 obtain⟨vp,rg,bg,hg,cg,h⟩:=h
 obtain⟨hk1,hk2⟩:=lM
 have c11:=h.cell.cell 10
 simp at c11
 have hreg:=h.reg
 have hkey:=Id.wj tn M.home w Bf sg
 have hfi:x.find=if x.found then 0 else -1:=rfl
 rw[hfi]
 have hcall:Calls prog 150 #[.pointer (some ⟨rg,0,none⟩),.string key] w λe w'=>e = .returned (.int .i64 (if x.found then 0 else -1))/\Fr [] w w':=by
  cases hf:x.found with
  | true =>
   rw[hf] at hreg
   exact Rk.BG w B rg k.dD key 0 hreg hk2
  | false =>
   rw[hf] at hreg
   exact Rk.qp w B rg k.dD [] key hreg hk2 rfl
 have HC:=hid hcall
 have HK:=hid (show Calls prog 149 #[.string tn,.string M.home] w λe w'=>e = .returned (.string key)/\w=w' from hkey)
 clear hreg hcall hkey h hfi
 generalize (if x.found then (0:Int) else -1)=r at *
 generalize key=K at *
 generalize tn=T,M.home=H at *
 go_enter func112,ntmps112
 go_wp2_with fail
 refine HK.mono ?_
 rintro e w1 ⟨rfl,rfl⟩
 go_wp2_with fail
 refine uu HC λw1 f1=>?_
 go_wp2_with fail
 go_ret
 exact⟨rfl,f1⟩
theorem py (w:World)(B g:Nat)(k:Cf)(x:M.Core)(p:M.Place)(h:aF w B g k x)(hp:x.place=some p) :
  Calls prog 115 #[.pointer (some ⟨g,0,none⟩),.int .i64 0] w λe w'=>e = .returned (.bool p.alive)/\w=w':=by
 obtain⟨vp,rg,bg,hg,cg,h⟩:=h
 go_enter func115,ntmps115
 go_wp2_with fail
 refine(ir w B g k x vp rg bg hg cg p h hp).mono ?_
 rintro e w1 ⟨⟨q,rfl,_,_,⟨_,_,_,_,hc,_,_⟩⟩,rfl⟩
 have c4:=hc.cell 4
 simp at c4
 clear h hc
 go_wp2_with fail
 go_ret
 exact⟨rfl,rfl⟩
theorem Bt (w:World)(B g:Nat)(k:Cf)(x:M.Core)(p:M.Place)(who:Int)(h:aF w B g k x)(hp:x.place=some p) :
  Calls prog 103 #[.pointer (some ⟨g,0,none⟩),.int .i64 0,.int .i64 who] w λe w'=>e = .returned (.int .i64 (p.lock.state who))/\Fr [] w w':=by
 obtain⟨vp,rg,bg,hg,cg,h⟩:=h
 go_enter func103,ntmps103
 go_wp2_with fail
 refine(ir w B g k x vp rg bg hg cg p h hp).mono ?_
 rintro e w1 ⟨⟨q,rfl,_,_,⟨_,lg,_,_,hc,_,hl⟩⟩,rfl⟩
 have c3:=hc.cell 3
 simp at c3
 clear h hc
 have HL:=hid (Lo.eK w B lg p.lock who hl)
 clear hl
 go_wp2_with fail
 refine uu HL λw2 f2=>?_
 go_wp2_with fail
 go_ret
 exact⟨rfl,f2⟩
theorem bz.Cp {w w':World}{B g:Nat}{k:Cf}{x:M.Core}{vp:Value}{rg bg hg cg q cl lg:Nat}{p:M.Place}{l':M.Lk}(h:bz w B g k x vp rg bg hg cg)(hq:B<=q)(ho:Own w B 195 1 vp 1 [.pointer (some ⟨q,0,none⟩)])
  (h1:B<=cl) (h2:B<=lg) (hc:Holds w q 200 #[.string tn,.string M.home,.pointer (some ⟨cl,0,none⟩),.pointer (some ⟨lg,0,none⟩),.bool p.alive,.int .i64 p.drawn]) (hcol:Co.bX w B cl p.col)
  (hf:FrX B Lo.Ts [] w w') (hl:Lo.df w' B lg l'):bz w' B g k { x with place:=some { p with lock:=l' } } vp rg bg hg cg:=by
 refine h.Cm (hf.mono (by simp) (λ_ h=>h)) ?_
 exact⟨q,hq,ho.bf hf (by decide),⟨cl,lg,h1,h2,hc.frx hf (by decide) (by simp),hcol.frx hf (by decide),hl⟩⟩
theorem Bg (w:World)(B g:Nat)(k:Cf)(x:M.Core)(p:M.Place)(who:Int)(wt:Bool)(h:aF w B g k x)(hp:x.place=some p)(hB:B<=w.heap.size)(hn:p.lock.an.length+p.lock.queue.length<=99) :
  Calls prog 84 #[.pointer (some ⟨g,0,none⟩),.int .i64 0,.int .i64 who,.bool wt] w λe w'=>(∃ b,e = .returned (.bool b))/\aF w' B g k (x.lock 0 who wt)/\FrX B Ts [] w w':=by
 obtain⟨vp,rg,bg,hg,cg,h⟩:=h
 have hx:x.lock 0 who wt={ x with place:=some { p with lock:=p.lock.ask who wt } }:=by simp[M.Core.lock,hp]
 rw[hx]
 clear hx
 go_enter func84,ntmps84
 go_wp2_with fail
 refine(ir w B g k x vp rg bg hg cg p h hp).mono ?_
 rintro e w1 ⟨⟨q,rfl,hq,ho,⟨cl,lg,h1,h2,hc,hcol,hl⟩⟩,rfl⟩
 have c3:=hc.cell 3
 simp at c3
 have HL:=hid (Lo.Ea w B lg p.lock who wt hl hB h2 hn)
 have HX:=hid (λw' l'=>bz.Cp (w':=w') (l':=l') h hq ho h1 h2 hc hcol)
 clear hl h hc ho hcol hp
 go_wp2_with fail
 refine HL.mono ?_
 rintro e w2 ⟨⟨b,rfl⟩,hl2,x2⟩
 have HP:=hid (HX _ _ x2 hl2)
 go_wp2_with fail
 go_ret
 exact⟨⟨_,rfl⟩,⟨_,_,_,_,_,HP⟩,x2.mono (by decide) (λ_ h=>h)⟩
theorem mU (w:World)(B g:Nat)(k:Cf)(x:M.Core)(p:M.Place)(who:Int)(wake:Bool)(h:aF w B g k x)(hp:x.place=some p)(hB:B<=w.heap.size)(hn:p.lock.an.length+p.lock.queue.length<=100)(hst:p.lock.state who=3∨p.lock.state who=2)(hh:x.hub.length<=900) :
  Calls prog 88 #[.pointer (some ⟨g,0,none⟩),.int .i64 0,.int .i64 who,.bool wake] w λe w'=>e = .returned (.tuple #[])/\aF w' B g k (x.unlock 0 who wake)/\FrX B Ts [] w w':=by
 obtain⟨vp,rg,bg,hg,cg,h⟩:=h
 have hx:x.unlock 0 who wake=if wake then { x with place:=some { p with lock:=p.lock.leave who },hub:=M.fu x.hub 0 } else { x with place:=some { p with lock:=p.lock.leave who } }:=by simp[M.Core.unlock,hp]
 rw[hx]
 clear hx
 go_enter func88,ntmps88
 go_wp2_with fail
 refine(ir w B g k x vp rg bg hg cg p h hp).mono ?_
 rintro e w1 ⟨⟨q,rfl,hq,ho,⟨cl,lg,h1,h2,hc,hcol,hl⟩⟩,rfl⟩
 have c3:=hc.cell 3
 simp at c3
 have HL:=hid (Lo.yp w B lg p.lock who hl hB h2 hn hst)
 have HX:=hid (λw' l'=>bz.Cp (w':=w') (l':=l') h hq ho h1 h2 hc hcol)
 clear hl h hc ho hcol hp hst
 go_wp2_with fail
 refine HL.mono ?_
 rintro e w2 ⟨⟨_,_,_,rfl⟩,hl2,x2⟩
 have hP:=HX.out _ _ x2 hl2
 have c12:=hP.cell.cell 12
 simp at c12
 have HH:=hid (Hb.Gh w2 B hg x.hub 0 hP.hub hh hP.bhg)
 have HP:=hid hP
 clear hP hl2
 cases wake with
 | false =>
  go_wp2_with fail
  go_end0
  exact⟨rfl,⟨_,_,_,_,_,HP⟩,x2.mono (by decide) (λ_ h=>h)⟩
 | true =>
  go_wp2_with fail
  refine HH.mono ?_
  rintro e w3 ⟨⟨v,rfl⟩,h3,x3⟩
  go_wp2_with fail
  go_end0
  exact⟨rfl,⟨_,_,_,_,_,HP.Cq x3 h3⟩,(x2.mono (by decide) (λ_ h=>h)).trans (x3.mono (by decide) (λ_ h=>h))⟩
theorem zi (w:World)(B g:Nat)(k:Cf)(x:M.Core)(who:Int)(h:aF w B g k x)(hh:x.hub.length<=900) :
  Calls prog 104 #[.pointer (some ⟨g,0,none⟩),.int .i64 who] w λe w'=>e = .returned (.bool (x.pw who))/\Fr [] w w':=by
 obtain⟨vp,rg,bg,hg,cg,h⟩:=h
 have hx:x.pw who=(M.dO x.hub who||M.due x.ct x.now who):=rfl
 rw[hx]
 have c12:=h.cell.cell 12
 simp at c12
 have HW:=hid (Hb.Fe w B hg x.hub who h.hub hh)
 have HD:=hid (λw' (f:Fr [] w w')=>Ck.DP w' B cg x.now who x.ct (h.clk.fr0 f))
 have HC:=hid h.cell
 generalize M.due x.ct x.now who=d at *
 generalize M.dO x.hub who=b at *
 clear h hx
 go_enter func104,ntmps104
 go_wp2_with fail
 refine uu HW λw2 f2=>?_
 have d13:=(HC.fr f2 (by simp)).cell 13
 simp at d13
 cases b with
 | true =>
  go_wp2_with fail
  go_ret
  exact⟨rfl,f2⟩
 | false =>
  go_wp2_with fail
  refine uu (HD _ f2) λw3 f3=>?_
  go_wp2_with fail
  go_ret
  exact⟨rfl,f2.trans f3⟩
theorem ny (w:World)(B g:Nat)(k:Cf)(x:M.Core)(who:Int)(h:aF w B g k x)(hB:B<=w.heap.size)(hh:x.hub.length<=900) :
  Calls prog 89 #[.pointer (some ⟨g,0,none⟩),.int .i64 who] w λe w'=>e = .returned (.tuple #[])/\aF w' B g k (x.EK who)/\FrX B Ts [] w w':=by
 obtain⟨vp,rg,bg,hg,cg,h⟩:=h
 have c12:=h.cell.cell 12
 simp at c12
 have HR:=hid (Hb.Gt w B hg x.hub who h.hub hB h.bhg hh)
 have H0:=hid h
 clear h
 go_enter func89,ntmps89
 go_wp2_with fail
 refine HR.mono ?_
 rintro e w2 ⟨rfl,h2,x2⟩
 have hP:=H0.Cq x2 h2
 have d13:=hP.cell.cell 13
 simp at d13
 have HD:=hid (Ck.sD w2 B cg x.now who x.ct hP.clk hP.bcg)
 have HP:=hid hP
 clear hP h2
 go_wp2_with fail
 refine HD.mono ?_
 rintro e w3 ⟨⟨b,rfl⟩,h3,x3⟩
 go_wp2_with fail
 go_end0
 exact⟨rfl,⟨_,_,_,_,_,HP.Ex x3 h3⟩,(x2.mono (by decide) (λ_ h=>h)).trans (x3.mono (by decide) (λ_ h=>h))⟩
theorem xa (w:World)(B g:Nat)(k:Cf)(x:M.Core)(who at_:Int)(h:aF w B g k x)(hB:B<=w.heap.size)(hh:x.hub.length<=90)(ha:x.ct.length<=90) :
  Calls prog 117 #[.pointer (some ⟨g,0,none⟩),.int .i64 who,.int .i64 0,.int .i64 at_] w λe w'=>e = .returned (.tuple #[])/\aF w' B g k (x.sleep who 0 at_)/\FrX B Ts [] w w':=by
 obtain⟨vp,rg,bg,hg,cg,h⟩:=h
 have c12:=h.cell.cell 12
 simp at c12
 have hx:x.sleep who 0 at_=if M.has who x.hub then { x with hub:=M.jZ x.hub who 0 } else { x with hub:=M.jZ x.hub who 0,ct:=M.CP x.ct who at_ }:=by
  unfold M.Core.sleep
  cases hh:M.has who x.hub<;>simp[M.jZ,hh]
 rw[hx]
 have HR:=hid (Hb.Gu w B hg x.hub who 0 h.hub hB h.bhg (by omega))
 generalize M.jZ x.hub who 0=L at *
 generalize M.has who x.hub=b at *
 have H0:=hid h
 clear h hx
 go_enter func117,ntmps117
 go_wp2_with fail
 refine HR.mono ?_
 rintro e w2 ⟨rfl,h2,x2⟩
 have hP:=H0.Cq x2 h2
 have d13:=hP.cell.cell 13
 simp at d13
 have HD:=hid (Ck.CO w2 B cg x.now who at_ x.ct hP.clk (Nat.le_trans hB x2.size) hP.bcg (by omega))
 have HP:=hid hP
 clear hP h2
 cases b with
 | true =>
  go_wp2_with fail
  go_end0
  exact⟨rfl,⟨_,_,_,_,_,HP⟩,x2.mono (by decide) (λ_ h=>h)⟩
 | false =>
  go_wp2_with fail
  refine HD.mono ?_
  rintro e w3 ⟨rfl,h3,x3⟩
  go_wp2_with fail
  go_end0
  exact⟨rfl,⟨_,_,_,_,_,HP.Ex x3 h3⟩,(x2.mono (by decide) (λ_ h=>h)).trans (x3.mono (by decide) (λ_ h=>h))⟩
theorem mK (w:World)(B g:Nat)(k:Cf)(x:M.Core)(h:aF w B g k x) :
  Calls prog 107 #[.pointer (some ⟨g,0,none⟩)] w λe w'=>e = .returned (.int .i64 x.now)/\w=w':=by
 obtain⟨vp,rg,bg,hg,cg,h⟩:=h
 have c13:=h.cell.cell 13
 simp at c13
 have HN:=hid (Ck.mK w B cg x.now x.ct h.clk)
 clear h
 go_enter func107,ntmps107
 go_wp2_with fail
 refine HN.mono ?_
 rintro e w2 ⟨rfl,rfl⟩
 go_wp2_with fail
 go_ret
 exact⟨rfl,rfl⟩
theorem sF (w:World)(B g:Nat)(k:Cf)(x:M.Core)(vp:Value)(rg bg hg cg:Nat)(h:bz w B g k x vp rg bg hg cg)(hB:B<=g)(h0:0<=x.counter)(h1:x.counter<9223372036854775807) :
  Calls prog 153 #[.pointer (some ⟨g,0,none⟩)] w λe w'=>e = .returned (.tuple #[.int .i64 (x.counter+1),.bool true])/\bz w' B g k { x with counter:=x.counter+1 } vp rg bg hg cg/\FrX B [143] [] w w':=by
 have c8:=h.cell.cell 8
 have z8:=h.cell.frozen 8
 simp at c8
 have hgl:=h.cell.lt
 have hw:IntKind.i64.wrap (x.counter+1)=x.counter+1:=IntWalk.i64_in _ (by omega)
 have hne:(x.counter==9223372036854775807)=false:=by simp only[beq_eq_false_iff_ne,ne_eq];omega
 have HC:=hid (h.zj hB (x.counter+1))
 clear h
 go_enter func153,ntmps153
 go_wp2_with fail
 go_ret2
 exact⟨rfl,HC.1,HC.2⟩
end Cr
