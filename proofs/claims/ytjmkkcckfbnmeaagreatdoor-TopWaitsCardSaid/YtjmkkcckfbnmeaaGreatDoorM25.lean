/- Texts CoreD, SrvD. -/
import Derived.Test.YtjmkkcckfbnmeaaGreatDoorM07
import Derived.Test.YtjmkkcckfbnmeaaGreatDoorM08
import Derived.Test.YtjmkkcckfbnmeaaGreatDoorM10
import Derived.Test.YtjmkkcckfbnmeaaGreatDoorM14
import Derived.Test.YtjmkkcckfbnmeaaGreatDoorM16
import Derived.Test.YtjmkkcckfbnmeaaGreatDoorM17
import Derived.Test.YtjmkkcckfbnmeaaGreatDoorM19
set_option maxRecDepth 100000
set_option maxHeartbeats 8000000
set_option linter.all false
namespace Go.Proofs.YtjmkkcckfbnmeaaGreatDoor.Lo
open Go.RowKit
theorem LockAt.frx {w w':World}{B g:Nat}{l:M.Lk}{Us:List TypeId}(h:LockAt w B g l)(hf:FrX B Us [] w w')(ht:∀ t,t∈Ts→t∉Us):LockAt w' B g l:=by
 obtain⟨a,b,vr,vq,h1,h2,h3⟩:=h
 exact⟨a,b,vr,vq,h1.frx hf (ht _ (by simp)) (by simp),h2.frx0 hf (ht _ (by simp)),h3.frx0 hf (ht _ (by simp))⟩
end Go.Proofs.YtjmkkcckfbnmeaaGreatDoor.Lo
namespace Go.Proofs.YtjmkkcckfbnmeaaGreatDoor.Cr
open Go.RowKit
structure Cf where
 conns:Int
 start:Int
 room:Int
 shards:Nat
def confC (k:Cf)(x:M.Core):List Value:=[.int .i64 k.conns,.int .i64 k.start,.int .i64 k.room,.int .i64 k.shards,.int .i64 x.cols,.int .i64 x.cards,.int .i64 x.maxBytes,.int .i64 x.logMost]
def tn : ByteArray := M.bs "ann"
def key:ByteArray:=Id.keyOf tn M.home
structure PlaceAt (w:World)(B q:Nat)(p:M.Place):Prop where
 at_:∃ cg lg,B≤cg∧B≤lg∧Holds w q 187 #[.string tn,.string M.home,.pointer (some ⟨cg,0,none⟩),.pointer (some ⟨lg,0,none⟩),.bool p.alive,.int .i64 p.drawn]∧Co.ColAt w B cg p.col∧Lo.LockAt w B lg p.lock
def PlsAt (w:World)(B:Nat)(v:Value):Option M.Place→Prop
 | none=>Own w B 182 1 v 0 []
 | some p=>∃ q,B≤q∧Own w B 182 1 v 1 [.pointer (some ⟨q,0,none⟩)]∧PlaceAt w B q p
def BugAt (w:World)(B bg:Nat)(c d b l:Int):Option (Int × Int)→Prop
 | none=>Ob.MapAt w B bg []
 | some y=>∃ q,B≤q∧Ob.MapAt w B bg [(tn,.pointer (some ⟨q,0,none⟩))]∧Bu.BudAt w q c d b l y.1 y.2
def ents (found:Bool):List Oi.Ent:=if found then [(key,.int .i64 0)] else []
structure CoreP (w:World)(B g:Nat)(k:Cf)(x:M.Core)(vp:Value)(rg bg hg cg:Nat):Prop where
 brg:B≤rg
 bbg:B≤bg
 bhg:B≤hg
 bcg:B≤cg
 cell:Holds w g 125 #[.int .i64 k.conns,.int .i64 k.start,.int .i64 k.room,.int .i64 k.shards,.int .i64 x.cols,.int .i64 x.cards,.int .i64 x.maxBytes,.int .i64 x.logMost,.int .i64 x.counter,vp,.pointer (some ⟨rg,0,none⟩),.pointer (some ⟨bg,0,none⟩),.pointer (some ⟨hg,0,none⟩),.pointer (some ⟨cg,0,none⟩)]
 pls:PlsAt w B vp x.place
 reg:Rk.RegAt w B rg k.shards (Rk.shardOf key k.shards) (ents x.found)
 bug:BugAt w B bg x.cols x.cards x.maxBytes x.logMost x.budget
 hub:Hb.HAt w B hg x.hub
 clk:Ck.ClockAt w B cg x.now x.alarms
def CoreAt (w:World)(B g:Nat)(k:Cf)(x:M.Core):Prop:=∃ vp rg bg hg cg,CoreP w B g k x vp rg bg hg cg
abbrev PTs:List TypeId:=187::182::(Co.Ts++Lo.Ts)
abbrev BTs:List TypeId:=[172,329,293]
abbrev Ts:List TypeId:=125::(PTs++(BTs++(Rk.Ts++(Hb.Ts++Ck.Ts))))
section
variable {w w':World} {B g:Nat} {k:Cf} {x:M.Core} {vp:Value} {rg bg hg cg:Nat} {Us:List TypeId}
theorem PlaceAt.frx {q:Nat}{p:M.Place}(h:PlaceAt w B q p)(hf:FrX B Us [] w w')(ht:∀ t,t∈PTs→t∉Us):PlaceAt w' B q p:=by
 obtain⟨c,l,h1,h2,h3,h4,h5⟩:=h
 exact⟨c,l,h1,h2,h3.frx hf (ht _ (by simp)) (by simp),h4.frx hf (fun t h=>ht t ((by decide:∀ t,t∈Co.Ts→t∈PTs) t h)),h5.frx hf (fun t h=>ht t ((by decide:∀ t,t∈Lo.Ts→t∈PTs) t h))⟩
theorem PlaceAt.fr0 {q:Nat}{p:M.Place}(h:PlaceAt w B q p)(hf:Fr [] w w'):PlaceAt w' B q p:=by
 obtain⟨c,l,h1,h2,h3,h4,h5⟩:=h
 exact⟨c,l,h1,h2,h3.fr hf (by simp),h4.fr0 hf,h5.fr0 hf⟩
theorem PlsAt.frx {v:Value}{o:Option M.Place}(h:PlsAt w B v o)(hf:FrX B Us [] w w')(ht:∀ t,t∈PTs→t∉Us):PlsAt w' B v o:=by
 cases o with
 | none=>exact Own.frx0 h hf (ht _ (by simp))
 | some p =>
  obtain⟨q,h1,h2,h3⟩:=h
  exact⟨q,h1,h2.frx0 hf (ht _ (by simp)),h3.frx hf ht⟩
theorem PlsAt.fr0 {v:Value}{o:Option M.Place}(h:PlsAt w B v o)(hf:Fr [] w w'):PlsAt w' B v o:=by
 cases o with
 | none=>exact Own.fr0 h hf
 | some p =>
  obtain⟨q,h1,h2,h3⟩:=h
  exact⟨q,h1,h2.fr0 hf,h3.fr0 hf⟩
theorem BugAt.frx {c d b l:Int}{o:Option (Int × Int)}(h:BugAt w B bg c d b l o)(hf:FrX B Us [] w w')(ht:∀ t,t∈BTs→t∉Us):BugAt w' B bg c d b l o:=by
 cases o with
 | none=>exact Ob.MapAt.frx h hf (ht _ (by simp)) (ht _ (by simp)) (by simp)
 | some p =>
  obtain⟨q,h1,h2,h3⟩:=h
  exact⟨q,h1,h2.frx hf (ht _ (by simp)) (ht _ (by simp)) (by simp),Holds.frx h3 hf (ht _ (by simp)) (by simp)⟩
theorem BugAt.fr0 {c d b l:Int}{o:Option (Int × Int)}(h:BugAt w B bg c d b l o)(hf:Fr [] w w'):BugAt w' B bg c d b l o:=by
 cases o with
 | none=>exact Ob.MapAt.fr0 h hf
 | some p =>
  obtain⟨q,h1,h2,h3⟩:=h
  exact⟨q,h1,h2.fr0 hf,Holds.fr h3 hf (by simp)⟩
theorem CoreP.fr0 (h:CoreP w B g k x vp rg bg hg cg)(hf:Fr [] w w'):CoreP w' B g k x vp rg bg hg cg :=
 ⟨h.brg,h.bbg,h.bhg,h.bcg,h.cell.fr hf (by simp),h.pls.fr0 hf,h.reg.fr0 hf,h.bug.fr0 hf,h.hub.fr0 hf,h.clk.fr0 hf⟩
theorem CoreP.frx (h:CoreP w B g k x vp rg bg hg cg)(hf:FrX B Us [] w w')(ht:∀ t,t∈Ts→t∉Us):CoreP w' B g k x vp rg bg hg cg :=
 ⟨h.brg,h.bbg,h.bhg,h.bcg,h.cell.frx hf (ht _ (by simp)) (by simp),h.pls.frx hf (fun t h=>ht t ((by decide:∀ t,t∈PTs→t∈Ts) t h)),h.reg.frx hf (fun t h=>ht t ((by decide:∀ t,t∈Rk.Ts→t∈Ts) t h)),h.bug.frx hf (fun t h=>ht t ((by decide:∀ t,t∈BTs→t∈Ts) t h)),h.hub.frx hf (ht _ (by simp)) (ht _ (by simp)),h.clk.frx hf (ht _ (by simp)) (ht _ (by simp))⟩
theorem CoreAt.fr0 (h:CoreAt w B g k x)(hf:Fr [] w w'):CoreAt w' B g k x:=by
 obtain⟨a,b,c,d,e,h⟩:=h
 exact⟨a,b,c,d,e,h.fr0 hf⟩
theorem CoreAt.frx (h:CoreAt w B g k x)(hf:FrX B Us [] w w')(ht:∀ t,t∈Ts→t∉Us):CoreAt w' B g k x:=by
 obtain⟨a,b,c,d,e,h⟩:=h
 exact⟨a,b,c,d,e,h.frx hf ht⟩
theorem CoreP.atHub (h:CoreP w B g k x vp rg bg hg cg)(hf:FrX B Hb.Ts [] w w'){l:List M.Wt}(hh:Hb.HAt w' B hg l):CoreP w' B g k { x with hub:=l } vp rg bg hg cg :=
 ⟨h.brg,h.bbg,h.bhg,h.bcg,h.cell.frx hf (by decide) (by simp),h.pls.frx hf (by decide),h.reg.frx hf (by decide),h.bug.frx hf (by decide),hh,h.clk.frx hf (by decide) (by decide)⟩
theorem CoreP.atClk (h:CoreP w B g k x vp rg bg hg cg)(hf:FrX B Ck.Ts [] w w'){n:Int}{l:List (Int × Int)}(hh:Ck.ClockAt w' B cg n l):CoreP w' B g k { x with now:=n,alarms:=l } vp rg bg hg cg :=
 ⟨h.brg,h.bbg,h.bhg,h.bcg,h.cell.frx hf (by decide) (by simp),h.pls.frx hf (by decide),h.reg.frx hf (by decide),h.bug.frx hf (by decide),h.hub.frx hf (by decide) (by decide),hh⟩
theorem CoreP.atPls (h:CoreP w B g k x vp rg bg hg cg)(hf:FrX B PTs [] w w'){o:Option M.Place}(hh:PlsAt w' B vp o):CoreP w' B g k { x with place:=o } vp rg bg hg cg :=
 ⟨h.brg,h.bbg,h.bhg,h.bcg,h.cell.frx hf (by decide) (by simp),hh,h.reg.frx hf (by decide),h.bug.frx hf (by decide),h.hub.frx hf (by decide) (by decide),h.clk.frx hf (by decide) (by decide)⟩
theorem CoreP.atBug (h:CoreP w B g k x vp rg bg hg cg)(hf:FrX B BTs [] w w'){o:Option (Int × Int)}(hh:BugAt w' B bg x.cols x.cards x.maxBytes x.logMost o):CoreP w' B g k { x with budget:=o } vp rg bg hg cg :=
 ⟨h.brg,h.bbg,h.bhg,h.bcg,h.cell.frx hf (by decide) (by simp),h.pls.frx hf (by decide),h.reg.frx hf (by decide),hh,h.hub.frx hf (by decide) (by decide),h.clk.frx hf (by decide) (by decide)⟩
theorem CoreP.atReg (h:CoreP w B g k x vp rg bg hg cg)(hf:FrX B Rk.Ts [] w w'){b:Bool}(hh:Rk.RegAt w' B rg k.shards (Rk.shardOf key k.shards) (ents b)):CoreP w' B g k { x with found:=b } vp rg bg hg cg :=
 ⟨h.brg,h.bbg,h.bhg,h.bcg,h.cell.frx hf (by decide) (by simp),h.pls.frx hf (by decide),hh,h.bug.frx hf (by decide),h.hub.frx hf (by decide) (by decide),h.clk.frx hf (by decide) (by decide)⟩
theorem CoreP.atCounter (h:CoreP w B g k x vp rg bg hg cg)(hg':B≤g)(n:Int):CoreP (w.setCell ⟨g,8,none⟩ (.int .i64 n)) B g k { x with counter:=n } vp rg bg hg cg∧FrX B [125] [] w (w.setCell ⟨g,8,none⟩ (.int .i64 n)):=by
 have hf:FrX B [125] [] w (w.setCell ⟨g,8,none⟩ (.int .i64 n)):=FrX.of_frT ((Fr.refl [g] w).setCell (by simp) _) (by simpa using hg') (fun y hy=>⟨125,by simp,by simp at hy;subst hy;exact h.cell.ty⟩)
 exact⟨⟨h.brg,h.bbg,h.bhg,h.bcg,by simpa using h.cell.set 8 (.int .i64 n),h.pls.frx hf (by decide),h.reg.frx hf (by decide),h.bug.frx hf (by decide),h.hub.frx hf (by decide) (by decide),h.clk.frx hf (by decide) (by decide)⟩,hf⟩
end
end Go.Proofs.YtjmkkcckfbnmeaaGreatDoor.Cr
namespace Go.Proofs.YtjmkkcckfbnmeaaGreatDoor.Tk
open Go.RowKit Cr
def taskC (xp:Nat)(who:Int)(t:M.Task)(vo vi:Value):List Value :=
 [.pointer (some ⟨xp,0,none⟩),.int .i64 who,.string tn,.int .i64 t.q.kind,.string t.q.tenant,.string t.q.col,.string t.q.uid,.string t.q.card,.int .i64 t.q.ck,.int .i64 t.q.cv,vo,.int .i64 t.q.token,.int .i64 t.q.most,.int .i64 t.q.ticks,.int .i64 t.deadline,.int .i64 t.stage,.int .i64 t.id,.int .i64 t.point.kind,.int .i64 t.point.err,.int .i64 t.point.token,.int .i64 t.point.version,.string t.point.card,.int .i64 t.point.index,.bool t.point.more,vi,.bool t.pointed,.int .i64 t.next,.bool false]
structure TaskP (w:World)(B g xp:Nat)(who:Int)(t:M.Task)(vo vi:Value):Prop where
 cell:Holds w g 140 (taskC xp who t vo vi).toArray
 ops:Ev.OpsAt w B vo t.q.ops
 its:Ev.ItsAt w B vi t.point.items
 l1:t.q.ops.length≤20
 l2:t.point.items.length≤20
def TaskAt (w:World)(B g xp:Nat)(who:Int)(t:M.Task):Prop:=∃ vo vi,TaskP w B g xp who t vo vi
section
variable {w w':World} {B g xp:Nat} {who:Int} {t:M.Task} {vo vi:Value} {Us:List TypeId} {S:List Nat}
theorem TaskP.frx (h:TaskP w B g xp who t vo vi)(hf:FrX B Us [] w w')(h1:140∉Us)(h2:49∉Us)(h3:154∉Us):TaskP w' B g xp who t vo vi :=
 ⟨h.cell.frx hf h1 (by simp),h.ops.frx0 hf h2,h.its.frx0 hf h3,h.l1,h.l2⟩
theorem TaskP.fr0 (h:TaskP w B g xp who t vo vi)(hf:Fr [] w w'):TaskP w' B g xp who t vo vi :=
 ⟨h.cell.fr hf (by simp),h.ops.fr0 hf,h.its.fr0 hf,h.l1,h.l2⟩
end
end Go.Proofs.YtjmkkcckfbnmeaaGreatDoor.Tk
namespace Go.Proofs.YtjmkkcckfbnmeaaGreatDoor.Sv
open Go.RowKit Cr
structure Blk where
 c:Nat
 se:Nat
 pi:Nat
 po:Nat
 ta:Option Nat
structure Cx where
 tv:Value
 what:Int
 seq:Int
 kind:Int
 q:M.Req
 vo:Value
 err:Int
 fr:ByteArray
 rp:M.Resp
 vi:Value
 last:Bool
def connC (b:Blk)(st:Int)(x:Cx):List Value :=
 [.int .i64 st,.pointer (some ⟨b.se,0,none⟩),.pointer (some ⟨b.po,0,none⟩),x.tv,.int .i64 x.what,.int .i64 x.seq,.int .i64 x.kind,.int .i64 x.q.kind,.string x.q.tenant,.string x.q.col,.string x.q.uid,.string x.q.card,.int .i64 x.q.ck,.int .i64 x.q.cv,x.vo,.int .i64 x.q.token,.int .i64 x.q.most,.int .i64 x.q.ticks,.int .i64 x.err,.string x.fr,.int .i64 x.rp.kind,.int .i64 x.rp.err,.int .i64 x.rp.token,.int .i64 x.rp.version,.string x.rp.card,.int .i64 x.rp.index,.bool x.rp.more,x.vi,.bool x.last]
def tnOf (b:Bool):ByteArray:=if b then tn else ⟨#[]⟩
def todoB (m:M.Conn):ByteArray:=En.bytesOf (m.todo.flatMap En.reqF)
def outB (m:M.Conn):ByteArray:=En.bytesOf (m.out.flatMap En.respF)
structure ConnP (w:World)(B xp:Nat)(room:Int)(b:Blk)(who:Int)(m:M.Conn)(x:Cx):Prop where
 bc:B≤b.c
 bse:B≤b.se
 bpi:B≤b.pi
 bpo:B≤b.po
 cell:Holds w b.c 85 (connC b m.state x).toArray
 sess:Holds w b.se 127 #[.pointer (some ⟨b.pi,0,none⟩),.string (tnOf m.bound),.int .i64 m.seq,.bool false]
 inp:Pi.PipeAt w b.pi room (todoB m) false
 outp:Pi.PipeAt w b.po room (outB m) false
 ta:m.state=2→∃ ta,b.ta=some ta∧B≤ta∧x.tv = .pointer (some ⟨ta,0,none⟩)∧Tk.TaskAt w B ta xp who m.task
 turn:m.state=2∨m.state=3→x.what=1∧x.seq=m.seq∧x.q=m.turn∧Ev.OpsAt w B x.vo m.turn.ops∧m.turn.ops.length≤20
 nta:m.state≠2→b.ta=none
 tk:m.state=2→m.task.q.kind≠1
 ans:m.state=3→x.fr=En.bytesOf (En.respF m.reply)∧x.rp=m.reply∧Ev.ItsAt w B x.vi m.reply.items∧m.reply.items.length≤20∧x.last=false
def ConnAt (w:World)(B xp:Nat)(room:Int)(b:Blk)(who:Int)(m:M.Conn):Prop:=∃ x,ConnP w B xp room b who m x
section
variable {w w':World} {B xp:Nat} {room:Int} {b:Blk} {who:Int} {m:M.Conn} {x:Cx} {Us:List TypeId} {S:List Nat}
abbrev CTs:List TypeId:=[85,127,129,140,49,154]
def Blk.all (b:Blk):List Nat:=b.c::b.se::b.pi::b.po::b.ta.toList
theorem Own.frs {w w':World}{B:Nat}{e:TypeId}{sz n:Nat}{v:Value}{xs:List Value}(h:Own w B e sz v n xs)(hf:FrX B Us S w w')(ht:e∉Us)(hS:∀ g,g∈S→∀ t,tyOf w g=some t→t≠e):Own w' B e sz v n xs :=
 h.frx hf ht fun g hg hx=>hS g hx _ (h.ty hg).1 rfl
theorem ConnP.frx (h:ConnP w B xp room b who m x)(hf:FrX B Us S w w')(ht:∀ t,t∈CTs→t∉Us)(hS:∀ g,g∈S→g∉b.all∧∀ t,tyOf w g=some t→t≠49∧t≠154):ConnP w' B xp room b who m x:=by
 have ho:∀ {v n xs sz},Own w B 49 sz v n xs→Own w' B 49 sz v n xs:=fun h=>Own.frs h hf (ht _ (by simp)) fun g hg t e=>((hS g hg).2 t e).1
 have hi:∀ {v n xs sz},Own w B 154 sz v n xs→Own w' B 154 sz v n xs:=fun h=>Own.frs h hf (ht _ (by simp)) fun g hg t e=>((hS g hg).2 t e).2
 have hn:∀ {g},g∈b.all→g∉S:=fun hg hx=>(hS _ hx).1 hg
 refine⟨h.bc,h.bse,h.bpi,h.bpo,h.cell.frx hf (ht _ (by simp)) (hn (by simp[Blk.all])),h.sess.frx hf (ht _ (by simp)) (hn (by simp[Blk.all])),Holds.frx h.inp hf (ht _ (by simp)) (hn (by simp[Blk.all])),Holds.frx h.outp hf (ht _ (by simp)) (hn (by simp[Blk.all])),fun hs=>?_,fun hs=>?_,h.nta,h.tk,fun hs=>?_⟩
 ·obtain⟨ta,h1,h2,h3,vo,vi,h4⟩:=h.ta hs
  exact⟨ta,h1,h2,h3,vo,vi,h4.cell.frx hf (ht _ (by simp)) (hn (by simp[Blk.all,h1])),ho h4.ops,hi h4.its,h4.l1,h4.l2⟩
 ·obtain⟨h1,h2,h3,h4,h5⟩:=h.turn hs
  exact⟨h1,h2,h3,ho h4,h5⟩
 ·obtain⟨h1,h2,h3,h4,h5⟩:=h.ans hs
  exact⟨h1,h2,hi h3,h4,h5⟩
end
end Go.Proofs.YtjmkkcckfbnmeaaGreatDoor.Sv
