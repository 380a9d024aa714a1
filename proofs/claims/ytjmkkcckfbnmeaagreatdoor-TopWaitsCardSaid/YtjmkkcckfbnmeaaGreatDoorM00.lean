/- Texts Model, PLock, PData, PInv, PStep, PTask. -/
set_option maxRecDepth 100000
set_option maxHeartbeats 8000000
set_option linter.all false
namespace Go.Proofs.YtjmkkcckfbnmeaaGreatDoor.M
abbrev BS:=ByteArray
structure Op where
 del:Bool
 uid:BS
 card:BS
 ck:Int
 cv:Int
deriving DecidableEq
structure Req where
 kind:Int
 tenant:BS:=⟨#[]⟩
 col:BS:=⟨#[]⟩
 uid:BS:=⟨#[]⟩
 card:BS:=⟨#[]⟩
 ck:Int:=0
 cv:Int:=0
 ops:List Op:=[]
 token:Int:=0
 most:Int:=0
 ticks:Int:=0
deriving DecidableEq
structure Item where
 uid:BS
 version:Int
 gone:Bool
 card:BS
deriving DecidableEq
structure Resp where
 kind:Int
 err:Int:=0
 token:Int:=0
 version:Int:=0
 card:BS:=⟨#[]⟩
 index:Int:=0
 more:Bool:=false
 items:List Item:=[]
deriving DecidableEq
structure Ev where
 kind:Int
 conn:Int
 seq:Int
 resp:Resp
deriving DecidableEq
structure Lk where
 readers:List Int:=[]
 writer:Int:=0
 writes:Bool:=false
 queue:List (Int × Bool):=[]
deriving DecidableEq
def Lk.state (l:Lk)(who:Int):Int :=
 if l.writes&&l.writer==who then 3 else if l.readers.contains who then 2 else if l.queue.any (fun a=>a.1==who) then 1 else 0
def mv:List (Int × Bool)→List Int→Int→Bool→Lk
 | [],r,w,b=>⟨r,w,b,[]⟩
 | a::q,r,w,b =>
  if b then ⟨r,w,b,a::q⟩
  else if a.2&&decide (0<r.length) then ⟨r,w,b,a::q⟩
  else if a.2 then mv q r a.1 true
  else mv q (r++[a.1]) w false
def Lk.move (l:Lk):Lk:=mv l.queue l.readers l.writer l.writes
def Lk.ask (l:Lk)(who:Int)(write:Bool):Lk:=if l.state who=0 then Lk.move { l with queue:=l.queue++[(who,write)] } else l
def Lk.leave (l:Lk)(who:Int):Lk :=
 if l.state who=3 then Lk.move { l with writes:=false }
 else if l.state who=2 then Lk.move { l with readers:=l.readers.filter (fun x=>x != who) }
 else if l.state who=1 then Lk.move { l with queue:=l.queue.filter (fun a=>a.1 != who) }
 else l
structure Wt where
 who:Int
 place:Int
 wok:Bool
deriving DecidableEq
def has (who:Int)(l:List Wt):Bool:=l.any fun x=>x.who==who
def addL (l:List Wt)(who place:Int):List Wt:=if has who l then l else l++[⟨who,place,false⟩]
def remL (l:List Wt)(who:Int):List Wt:=l.eraseP (fun x=>x.who==who)
def wakeL (l:List Wt)(place:Int):List Wt:=l.map fun x=>if x.place==place then ⟨x.who,x.place,true⟩ else x
def isWoken (l:List Wt)(who:Int):Bool:=match l.find? (fun x=>x.who==who) with|some x=>x.wok|none=>false
def dropA (l:List (Int × Int))(who:Int):List (Int × Int):=l.eraseP (fun a=>a.1==who)
def setA (l:List (Int × Int))(who a:Int):List (Int × Int):=dropA l who++[(who,a)]
def due (l:List (Int × Int))(now who:Int):Bool:=match l.find? (fun a=>a.1==who) with|some x=>decide (x.2≤now)|none=>false
structure Cd where
 uid:BS
 version:Int
 text:BS
deriving DecidableEq
structure Col where
 cards:List Cd:=[]
 log:List (Int × BS):=[]
 logMost:Int
 most:Int
 bytes:Int:=0
 latest:Int
 horizon:Int
deriving DecidableEq
def lt (a b:BS):Bool:=decide (a.data.toList<b.data.toList)
def getC (l:List Cd)(u:BS):Option Cd:=l.find? (fun c=>c.uid==u)
def putC (l:List Cd)(c:Cd):List Cd:=if l.any (fun x=>x.uid==c.uid) then l.map (fun x=>if x.uid==c.uid then c else x) else l.filter (fun x=>lt x.uid c.uid)++[c]++l.filter (fun x=>lt c.uid x.uid)
def delC (l:List Cd)(u:BS):List Cd:=l.filter (fun c=>!(c.uid==u))
def holdsB (k v:Int)(there:Bool)(ver:Int):Bool:=if k=1 then !there else if k=2 then there else if k=3 then there&&ver==v else true
def chk (c:Col)(room:Int)(ops:List Op):Nat→Int→Int→List Op→Int × Int × Int
 | _,_,grow,[]=>(0,grow,0)
 | i,many,grow,o::r =>
  if (ops.take i).any (fun p=>p.uid==o.uid) then (i,0,11)
  else
   let e:=getC c.cards o.uid
   if !holdsB o.ck o.cv e.isSome ((e.map (·.version)).getD 0) then (i,0,6)
   else if o.del&&e.isNone then (i,0,4)
   else
    let many1:=if e.isSome then many - 1 else many
    let grow1:Int:=match e with|some x=>grow - (x.text.size:Int)|none=>grow
    let many2:=if o.del then many1 else many1+1
    let grow2:=if o.del then grow1 else grow1+(o.card.size:Int)
    if many2 > c.most||grow2 > room then (i,0,7) else chk c room ops (i+1) many2 grow2 r
def Col.check (c:Col)(ops:List Op)(room:Int):Int × Int × Int:=chk c room ops 0 c.cards.length 0 ops
def Col.apply (c:Col)(o:Op)(token:Int):Col :=
 let e:=getC c.cards o.uid
 if token<c.latest||(o.del&&e.isNone)||(!o.del&&e.isNone&&decide ((c.cards.length:Int) ≥ c.most)) then c
 else
  let b1:Int:=match e with|some x=>c.bytes - (x.text.size:Int)|none=>c.bytes
  let cards:=if o.del then delC c.cards o.uid else putC c.cards ⟨o.uid,token,o.card⟩
  let b2:=if o.del then b1 else b1+(o.card.size:Int)
  if (c.log.length:Int)<c.logMost then { c with cards:=cards,bytes:=b2,log:=c.log++[(token,o.uid)],latest:=token }
  else { c with cards:=cards,bytes:=b2,log:=c.log.drop 1++[(token,o.uid)],horizon:=max c.horizon ((c.log.head?.map (·.1)).getD 0),latest:=token }
structure Place where
 col:Col
 lock:Lk:={}
 alive:Bool:=true
 drawn:Int
deriving DecidableEq
structure Core where
 cols:Int      -- quota
 cards:Int
 maxBytes:Int
 logMost:Int
 counter:Int
 place:Option Place:=none    -- the one collection there may be
 found:Bool:=false           -- is it in the register
 budget:Option (Int × Int):=none  -- collections,bytes
 hub:List Wt:=[]
 now:Int:=0
 alarms:List (Int × Int):=[]
deriving DecidableEq
structure Task where
 q:Req
 deadline:Int
 stage:Int:=1
 id:Int:=0
 point:Resp:={ kind:=0 }
 pointed:Bool:=false
 next:Int:=0
deriving DecidableEq
def writes (k:Int):Bool:=k==2||k==3||k==4||k==5||k==7
def bs (s:String):BS:=s.toUTF8
def Core.create (x:Core):Core × Resp :=
 if x.found then (x,{ kind:=2,err:=5 })
 else
  let b:=x.budget.getD (0,0)
  if b.1 ≥ x.cols then ({ x with budget:=some b },{ kind:=2,err:=7 })
  else
   let t:=x.counter+1
   ({ x with counter:=t,budget:=some (b.1+1,b.2),found:=true,place:=some { col:={ logMost:=max x.logMost 1,most:=max x.cards 1,latest:=t,horizon:=t },drawn:=t } },{ kind:=2,token:=t })
def Core.list (x:Core):Resp :=
 { kind := 10, items := match x.found, x.place with | true, some p => [⟨bs "home", p.drawn, false, ⟨#[]⟩⟩] | _, _ => [] }
def Core.find (x:Core):Int:=if x.found then 0 else -1
def Core.alive (x:Core)(id:Int):Bool:=match x.place with|some p=>id==0&&p.alive|none=>false
def Core.lock (x:Core)(id who:Int)(write:Bool):Core:=match x.place with|some p=>if id==0 then { x with place:=some { p with lock:=p.lock.ask who write } } else x|none=>x
def Core.held (x:Core)(id who:Int):Int:=match x.place with|some p=>if id==0 then p.lock.state who else 0|none=>0
def Core.unlock (x:Core)(id who:Int)(wake:Bool):Core :=
 let y:=match x.place with|some p=>if id==0 then { x with place:=some { p with lock:=p.lock.leave who } } else x|none=>x
 if wake then { y with hub:=wakeL y.hub id } else y
def Core.write (x:Core)(p:Place)(ops:List Op)(apply:Bool)(a:Resp):Core × Resp :=
 let b:=x.budget.getD (0,0)
 let r:=p.col.check ops (x.maxBytes - b.2)
 if r.2.2≠0 then (x,{ a with err:=r.2.2,index:=r.1 })
 else
  let t:=x.counter+1
  let c:=if apply then ops.foldl (fun c o=>c.apply o t) p.col else p.col
  ({ x with counter:=t,budget:=some (b.1,b.2+r.2.1),place:=some { p with drawn:=t,col:=c } },{ a with token:=t })
def items (c:Col):List Item:=c.cards.map fun e=>⟨e.uid,e.version,false,e.text⟩
def before (a b:Item):Bool:=decide (a.version<b.version)||(decide (a.version=b.version)&&lt a.uid b.uid)
def ins (x:Item):List Item→List Item
 | []=>[x]
 | y::r=>if before x y then x::y::r else y::ins x r
def sortI (l:List Item):List Item:=l.foldl (fun acc x=>ins x acc) []
def Core.work (x:Core)(q:Req):Core × Resp :=
 match x.place with
 | none=>(x,{ kind:=q.kind,err:=4 })
 | some p =>
  if !p.alive then (x,{ kind:=q.kind,err:=4 })
  else if q.kind=3 then
   let t:=x.counter+1
   let b:=x.budget.getD (0,0)
   ({ x with counter:=t,found:=false,budget:=some (max (b.1 - 1) 0,max (b.2 - p.col.bytes) 0),place:=some { p with alive:=false } },{ kind:=3,token:=t })
  else if q.kind=4 then
   let r:=x.write p [⟨false,q.uid,q.card,q.ck,q.cv⟩] true { kind:=4 }
   (r.1,{ r.2 with version:=r.2.token })
  else if q.kind=5 then x.write p [⟨true,q.uid,⟨#[]⟩,q.ck,q.cv⟩] true { kind:=5 }
  else if q.kind=7 then x.write p q.ops false { kind:=7 }
  else if q.kind=6 then
   match getC p.col.cards q.uid with
   | none=>(x,{ kind:=6,err:=4 })
   | some e=>(x,{ kind:=6,version:=e.version,card:=e.text })
  else if q.kind=8 then (x,{ kind:=8,token:=p.col.latest,items:=sortI (items p.col) })  -- token 0 alone
  else if q.kind=9 then
   if p.col.latest≤q.token then (x,{ kind:=9,err:=15 }) else (x,{ kind:=9,token:=p.col.latest })
  else (x,{ kind:=q.kind,err:=10 })
def Core.applyOp (x:Core)(id:Int)(o:Op)(t:Int):Core:=match x.place with|some p=>if id==0 then { x with place:=some { p with col:=p.col.apply o t } } else x|none=>x
def Core.sleep (x:Core)(who id at_:Int):Core:=if has who x.hub then x else { x with hub:=addL x.hub who id,alarms:=setA x.alarms who at_ }
def Core.rise (x:Core)(who:Int):Core:={ x with hub:=remL x.hub who,alarms:=dropA x.alarms who }
def Core.awake (x:Core)(who:Int):Bool:=isWoken x.hub who||due x.alarms x.now who
def Task.start (x:Core)(q:Req):Task:={ q:=q,deadline:=x.now+q.ticks }
def Task.can (t:Task)(x:Core)(who:Int):Bool :=
 if t.stage=3 then decide (x.held t.id who=2∨x.held t.id who=3)
 else if t.stage=7 then x.awake who
 else decide (t.stage≠8)
def Task.settle (t:Task)(a:Resp)(s:Int):Task:={ t with point:=a,pointed:=true,stage:=s }
def Task.step (t:Task)(x:Core)(who:Int):Core × Task :=
 if t.stage=1 then
  if t.q.kind=2 then let r:=x.create;(r.1,t.settle r.2 8)
  else if t.q.kind=10 then (x,t.settle x.list 8)
  else if x.find<0 then (x,{ t.settle { kind:=t.q.kind,err:=4 } 8 with id:=x.find })
  else (x,{ t with id:=x.find,stage:=2 })
 else if t.stage=2 then (x.lock t.id who (writes t.q.kind),{ t with stage:=3 })
 else if t.stage=3 then
  if !x.alive t.id then (x.unlock t.id who false,{ t with stage:=1 })
  else
   let r:=x.work t.q
   if t.q.kind=9&&r.2.err==15 then
    if x.now ≥ t.deadline then (r.1,t.settle r.2 6)
    else (r.1.sleep who t.id t.deadline,{ t with stage:=6 })
   else if t.q.kind=7&&r.2.err==0 then (r.1,t.settle r.2 4)
   else if 0<r.2.items.length then (r.1,t.settle r.2 5)
   else (r.1,t.settle r.2 6)
 else if t.stage=4 then
  let y:=match t.q.ops[t.next.toNat]? with|some o=>x.applyOp t.id o t.point.token|none=>x
  (y,{ t with next:=t.next+1,stage:=if t.next+1=t.q.ops.length then 6 else 4 })
 else if t.stage=5 then (x,{ t with next:=t.next+3,stage:=if t.next+3 ≥ t.point.items.length then 6 else 5 })
 else if t.stage=6 then (x.unlock t.id who (t.pointed&&writes t.q.kind&&t.point.err==0),{ t with stage:=if t.pointed then 8 else 7 })
 else if t.stage=7 then (x.rise who,{ t with stage:=1 })
 else (x,t)
structure Conn where
 state:Int:=1
 todo:List Req:=[]
 bound:Bool:=false
 seq:Int:=0
 task:Task:={ q:={ kind:=0 },deadline:=0 }
 turn:Req:={ kind:=0 }
 reply:Resp:={ kind:=0 }
 out:List Resp:=[]
deriving DecidableEq
structure Srv where
 core:Core
 conns:List Conn:=[]
 events:List Ev:=[]
deriving DecidableEq
def Srv.can (s:Srv)(k:Nat):Bool:=match s.conns[k]? with
 | none=>false
 | some c=>if c.state=1 then !c.todo.isEmpty else if c.state=2 then c.task.can s.core k else decide (c.state=3)
def Srv.pick (s:Srv)(k:Nat):Srv:=match s.conns[k]? with
 | none=>s
 | some c =>
  if !s.can k then s
  else if c.state=1 then
   match c.todo with
   | []=>s
   | q::r =>
    let c1:={ c with todo:=r,seq:=c.seq+1,turn:=q }
    let e1:Ev:=⟨1,k,c.seq+1,{ kind:=0 }⟩
    if q.kind=1 then
     { s with conns:=s.conns.set k { c1 with bound:=true,state:=3,reply:={ kind:=1 } },events:=s.events++[e1,⟨2,k,c.seq+1,{ kind:=1 }⟩] }
    else { s with conns:=s.conns.set k { c1 with task:=Task.start s.core q,state:=2 },events:=s.events++[e1] }
  else if c.state=2 then
   let r:=c.task.step s.core k
   let ev:=if r.2.pointed&&!c.task.pointed then [(⟨2,k,c.seq,r.2.point⟩:Ev)] else []
   if r.2.stage=8 then { s with core:=r.1,conns:=s.conns.set k { c with task:=r.2,state:=3,reply:=r.2.point },events:=s.events++ev }
   else { s with core:=r.1,conns:=s.conns.set k { c with task:=r.2 },events:=s.events++ev }
  else { s with conns:=s.conns.set k { c with state:=1,out:=c.out++[c.reply] },events:=s.events++[⟨3,k,c.seq,c.reply⟩] }
def rounds (s:Srv)(n:Nat):Nat→Srv
 | 0=>s
 | t+1=>rounds ((List.range n).foldl Srv.pick s) n t
def answered (s:Srv)(had:Nat)(k:Int):Bool:=(s.events.drop had).any fun e=>e.kind==3&&e.conn==k
def Srv.send (s:Srv)(k:Nat)(q:List Req):Srv:=match s.conns[k]? with|some c=>{ s with conns:=s.conns.set k { c with todo:=c.todo++q } }|none=>s
def Srv.tick (s:Srv)(n:Int):Srv:={ s with core:={ s.core with now:=s.core.now+n } }
def ann : BS := bs "name:Ann\n"
def bob : BS := bs "name:Bob\n"
def cy : BS := bs "name:Cy\n"
def home : BS := bs "home"
def hello : Req := { kind := 1, tenant := bs "ann" }
def rCreate:Req:={ kind:=2,col:=home }
def rPut : Req := { kind := 4, col := home, uid := bs "a", card := ann }
def core0:Core:={ cols:=2,cards:=6,maxBytes:=65536,logMost:=9,counter:=0 }
def start (n:Nat):Srv :=
 let s:Srv:={ core:=core0,conns:=(List.replicate n { todo:=[hello] }) }
 rounds (s.send 0 [rCreate,rPut]) n 12
def ask (waits:Nat)(ticks:Int)(k:Nat):Req :=
 if k > waits then
  match (k - waits) % 4 with
  | 0=>{ kind:=8,col:=home,most:=3 }
  | 1 => { kind := 6, col := home, uid := bs "a" }
  | 2=>{ kind:=10 }
  | _=>{ kind:=9,col:=home }
 else { kind:=9,col:=home,token:=2,ticks:=ticks }
def wr (write:Nat):Req :=
 match write with
 | 1 => { kind := 7, col := home, ops := [⟨false, bs "b", bob, 0, 0⟩, ⟨true, bs "a", ⟨#[]⟩, 0, 0⟩, ⟨false, bs "c", cy, 0, 0⟩] }
 | 2 => { kind := 5, col := home, uid := bs "a" }
 | 3=>{ kind:=3,col:=home }
 | _ => { kind := 4, col := home, uid := bs "b", card := bob }
def asked (s:Srv)(waits:Nat)(ticks:Int)(n:Nat):Srv:=(List.range (n - 1)).foldl (fun s i=>s.send (i+1) [ask waits ticks (i+1)]) s
def till (s:Srv)(had n:Nat):Nat→Nat→Srv
 | 0,_=>s
 | m+1,i=>if answered s had 0 then s else till (s.pick (i % n)) had n m (i+1)
def want (write:Nat):Resp:=if write=3 then { kind:=9,err:=4 } else if write<4 then { kind:=9,token:=3 } else { kind:=9,err:=15 }
def ends (s:Srv)(had waits write:Nat):Bool :=
 (List.range waits).all fun i=>answered s had (i+1)&&(s.events.drop had).all fun e=>!(e.kind==3&&e.conn==(i+1:Nat))||e.resp==want write
def topWaits (picks:List Int)(waits asks:Nat)(ticks:Int)(write:Nat):Bool :=
 let n:=1+waits+asks
 let s0:=start n
 match s0.conns[0]? with
 | none=>false
 | some c0 =>
  if c0.state≠1||s0.can 0 then false
  else
   let had:=s0.events.length
   let s1:=asked s0 waits ticks n
   let s2:=if write<4 then s1.send 0 [wr write] else s1
   let s3:=picks.foldl (fun s p=>s.pick ((p % 18446744073709551616).toNat % n)) s2
   if write<4 then
    let s4:=till s3 had n (60*n) 0
    answered s4 had 0&&ends (rounds s4 n 8) had waits write
   else
    let s4:=(rounds s3 n 20).tick (ticks - 1)
    let s5:=rounds s4 n 20
    (List.range waits).all (fun i=>!answered s5 had (i+1)&&!s5.can (i+1))&&ends (rounds (s5.tick 1) n 8) had waits write
end Go.Proofs.YtjmkkcckfbnmeaaGreatDoor.M
namespace Go.Proofs.YtjmkkcckfbnmeaaGreatDoor.M
def whos (q:List (Int × Bool)):List Int:=q.map (·.1)
structure LOK (l:Lk):Prop where
 wr:l.writer=0
 wrr:l.writes=true→l.readers=[]
 r0:(0:Int)∉l.readers
 qw:∀ a∈l.queue,a.2=(a.1==0)
 dis:∀ a∈l.queue,a.1∉l.readers
 shape:(l.writes=true∧(0:Int)∉whos l.queue)∨(l.writes=false∧l.queue=[]) ∨
  (l.writes=false∧l.readers≠[]∧∃ Q,l.queue=(0,true)::Q∧(0:Int)∉whos Q)
theorem any_whos (q:List (Int × Bool))(k:Int):q.any (fun a=>a.1==k)=decide (k∈whos q):=by
 induction q with
 | nil=>simp[whos]
 | cons a q ih =>
  simp only[List.any_cons,ih,whos,List.map_cons,List.mem_cons]
  by_cases h:a.1=k
  ·simp[h]
  ·have h':¬ k=a.1:=fun e=>h e.symm
   simp[h,h']
theorem state_eq (l:Lk)(hw:l.writer=0)(k:Int) :
  l.state k=if l.writes=true∧k=0 then 3 else if k∈l.readers then 2 else if k∈whos l.queue then 1 else 0:=by
 unfold Lk.state
 rw[any_whos,hw]
 by_cases h0:k=0
 ·subst h0
  cases l.writes<;>simp
 ·have h0':¬ (0:Int)=k:=fun e=>h0 e.symm
  simp[h0,h0']
theorem mv_readers:∀ (q:List (Int × Bool)) (r:List Int) (w:Int),(∀ a∈q,a.2=false)→mv q r w false=⟨r++whos q,w,false,[]⟩
 | [],r,w,_=>by simp[mv,whos]
 | a::q,r,w,h=>by
  have ha:a.2=false:=h a (by simp)
  rw[mv]
  simp only[ha,Bool.false_eq_true,if_false,Bool.false_and]
  rw[mv_readers q _ w (fun b hb=>h b (by simp[hb]))]
  simp[whos]
theorem mv_writes (q:List (Int × Bool))(r:List Int)(w:Int):mv q r w true=⟨r,w,true,q⟩:=by
 cases q<;>simp[mv]
theorem mv_stuck (a:Int × Bool)(q:List (Int × Bool))(r:List Int)(w:Int)(ha:a.2=true)(hr:r≠[]):mv (a::q) r w false=⟨r,w,false,a::q⟩:=by
 have:0<r.length:=List.length_pos_iff.2 hr
 simp[mv,ha,this]
theorem mv_enter (a:Int × Bool)(q:List (Int × Bool))(w:Int)(ha:a.2=true):mv (a::q) [] w false=⟨[],a.1,true,q⟩:=by
 rw[mv]
 simp only[ha,Bool.false_eq_true,if_false,Bool.true_and,List.length_nil,Nat.lt_irrefl,decide_false,if_true]
 exact mv_writes _ _ _
theorem LOK.readers_false {q:List (Int × Bool)}(h:∀ a∈q,a.2=(a.1==0))(h0:(0:Int)∉whos q):∀ a∈q,a.2=false:=by
 intro a ha
 rw[h a ha]
 have:a.1≠0:=fun e=>h0 (by rw[←e];exact List.mem_map_of_mem ha)
 simpa using this
theorem ask_reader {l:Lk}(h:LOK l){k:Int}(hk:k≠0)(hs:l.state k=0) :
  LOK (l.ask k false)∧((l.ask k false).state k=1∨(l.ask k false).state k=2)∧(∀ i,i≠k→(l.ask k false).state i=l.state i)∧(l.state 0=0→(l.ask k false).state k=2):=by
 have hst:=state_eq l h.wr
 have hs':=hs
 rw[hst] at hs'
 have hkr:k∉l.readers:=fun hm=>by simp[hk,hm] at hs'
 have hkq:k∉whos l.queue:=fun hm=>by simp[hk,hkr,hm] at hs'
 have e:l.ask k false=mv (l.queue++[(k,false)]) l.readers l.writer l.writes:=by
  unfold Lk.ask
  rw[if_pos hs]
  rfl
 obtain⟨hw,hwr,hr0,hqw,hdis,hshape⟩:=h
 rw[e,hw]
 have hqw':∀ a∈l.queue++[(k,false)],a.2=(a.1==0):=by
  intro a ha
  rcases List.mem_append.1 ha with ha|ha
  ·exact hqw a ha
  ·simp at ha
   subst ha
   simpa using hk
 have hdis':∀ a∈l.queue++[(k,false)],a.1∉l.readers:=by
  intro a ha
  rcases List.mem_append.1 ha with ha|ha
  ·exact hdis a ha
  ·simp at ha
   subst ha
   exact hkr
 rcases hshape with⟨hws,h0⟩|⟨hws,hq⟩|⟨hws,hne,Q,hq,h0⟩
 ·rw[hws,mv_writes]
  refine⟨⟨rfl,fun _=>hwr hws,hr0,hqw',hdis',.inl ⟨rfl,by simp[whos] at h0 ⊢;exact⟨h0,fun e=>hk e.symm⟩⟩⟩,?_,?_,?_⟩
  ·left
   rw[state_eq _ rfl]
   simp[hk,hkr,whos]
  ·intro i hi
   rw[state_eq _ rfl,hst]
   simp[hws,whos,hi]
  ·intro h3
   rw[hst] at h3
   simp[hws] at h3
 ·rw[hws,hq]
  simp only[List.nil_append]
  rw[mv_readers _ _ _ (by simp)]
  refine⟨⟨rfl,(fun h=>by cases h),by simp[whos,hr0];exact fun e=>hk e.symm,by simp,by simp,.inr (.inl ⟨rfl,rfl⟩)⟩,?_,?_,?_⟩
  ·right
   rw[state_eq _ rfl]
   simp[whos]
  ·intro i hi
   rw[state_eq _ rfl,hst]
   simp[hws,hq,whos,hi]
  ·intro _
   rw[state_eq _ rfl]
   simp[whos]
 ·rw[hws,hq]
  simp only[List.cons_append]
  rw[mv_stuck _ _ _ _ rfl hne]
  refine⟨⟨rfl,(fun h=>by cases h),hr0,by rw[hq] at hqw';simpa using hqw',by rw[hq] at hdis';simpa using hdis',.inr (.inr ⟨rfl,hne,_,rfl,by simp[whos] at h0 ⊢;exact⟨h0,fun e=>hk e.symm⟩⟩)⟩,?_,?_,?_⟩
  ·left
   rw[state_eq _ rfl]
   simp[hkr,whos]
  ·intro i hi
   rw[state_eq _ rfl,hst]
   simp[hws,hq,whos,hi]
  ·intro h3
   rw[hst] at h3
   simp[hws,hr0,hq,whos] at h3
theorem ask_writer {l:Lk}(h:LOK l)(hs:l.state 0=0) :
  LOK (l.ask 0 true)∧((l.ask 0 true).state 0=1∨(l.ask 0 true).state 0=3)∧(∀ i,i≠0→(l.ask 0 true).state i=l.state i):=by
 have hst:=state_eq l h.wr
 have e:l.ask 0 true=mv (l.queue++[(0,true)]) l.readers l.writer l.writes:=by
  unfold Lk.ask
  rw[if_pos hs]
  rfl
 obtain⟨hw,hwr,hr0,hqw,hdis,hshape⟩:=h
 rw[e,hw]
 rw[hst] at hs
 rcases hshape with⟨hws,h0⟩|⟨hws,hq⟩|⟨hws,hne,Q,hq,h0⟩
 ·simp[hws] at hs
 ·rw[hws,hq]
  simp only[List.nil_append]
  by_cases hr:l.readers=[]
  ·rw[hr,mv_enter _ _ _ rfl]
   refine⟨⟨rfl,fun _=>rfl,by simp,by simp,by simp,.inl ⟨rfl,by simp[whos]⟩⟩,?_,?_⟩
   ·right
    rw[state_eq _ rfl]
    simp
   ·intro i hi
    rw[state_eq _ rfl,hst]
    simp[hws,hr,hq,whos,hi]
  ·rw[mv_stuck _ _ _ _ rfl hr]
   refine⟨⟨rfl,fun h=>(by cases h),hr0,by simp,by simpa using hr0,.inr (.inr ⟨rfl,hr,[],rfl,by simp[whos]⟩)⟩,?_,?_⟩
   ·left
    rw[state_eq _ rfl]
    simp[hr0,whos]
   ·intro i hi
    rw[state_eq _ rfl,hst]
    simp[hws,hq,whos,hi]
 ·simp[hws,hr0,hq,whos] at hs
theorem filter_mem (r:List Int)(k i:Int):i∈r.filter (fun x=>x != k) ↔ i∈r∧i≠k:=by simp
theorem leave_reader {l:Lk}(h:LOK l){k:Int}(hk:k≠0)(hs:l.state k=2) :
  LOK (l.leave k)∧(l.leave k).state k=0∧(∀ i,i≠k→i≠0→(l.leave k).state i=l.state i)∧((l.leave k).state 0=l.state 0∨(l.state 0=1∧(l.leave k).state 0=3)):=by
 have hst:=state_eq l h.wr
 have hs':=hs
 rw[hst] at hs'
 have hkr:k∈l.readers:=by
  rcases Classical.em (k∈l.readers) with h|h
  ·exact h
  ·simp only[hk,h,and_false,if_false] at hs'
   split at hs'<;>simp at hs'
 have e:l.leave k=mv l.queue (l.readers.filter (fun x=>x != k)) l.writer l.writes:=by
  unfold Lk.leave
  rw[if_neg (by rw[hs];decide),if_pos hs]
  rfl
 obtain⟨hw,hwr,hr0,hqw,hdis,hshape⟩:=h
 rw[e,hw]
 have hr0':(0:Int)∉l.readers.filter (fun x=>x != k):=fun hm=>hr0 ((filter_mem _ _ _).1 hm).1
 rcases hshape with⟨hws,h0⟩|⟨hws,hq⟩|⟨hws,hne,Q,hq,h0⟩
 ·rw[hwr hws] at hkr
  simp at hkr
 ·rw[hws,hq,mv]
  refine⟨⟨rfl,(fun h=>by cases h),hr0',by simp,by simp,.inr (.inl ⟨rfl,rfl⟩)⟩,?_,?_,?_⟩
  ·rw[state_eq _ rfl]
   simp[whos]
  ·intro i hi hi0
   rw[state_eq _ rfl,hst]
   simp only[filter_mem]
   simp[hws,hq,whos,hi]
  ·left
   rw[state_eq _ rfl,hst]
   simp only[filter_mem]
   simp[hws,hq,whos,hr0]
 ·have hkq:k∉whos l.queue:=fun hm=>by
   obtain⟨a,ha,he⟩:=List.mem_map.1 hm
   exact hdis a ha (by simpa[he] using hkr)
  rw[hws,hq]
  rw[hq] at hkq
  have hQ:∀ a∈Q,a.1∉l.readers:=fun a ha=>hdis a (by rw[hq];simp[ha])
  have hQw:∀ a∈Q,a.2=(a.1==0):=fun a ha=>hqw a (by rw[hq];simp[ha])
  by_cases hr:l.readers.filter (fun x=>x != k)=[]
  ·have hone:∀ i,i∈l.readers→i=k:=fun i hi=>Classical.byContradiction fun hne=>by
    have:i∈l.readers.filter (fun x=>x != k):=(filter_mem _ _ _).2 ⟨hi,hne⟩
    rw[hr] at this
    simp at this
   rw[hr,mv_enter _ _ _ rfl]
   refine⟨⟨rfl,fun _=>rfl,by simp,hQw,by simp,.inl ⟨rfl,h0⟩⟩,?_,?_,?_⟩
   ·rw[state_eq _ rfl]
    simp[whos] at hkq ⊢
    simp[hk,hkq.2]
   ·intro i hi hi0
    rw[state_eq _ rfl,hst]
    have:i∉l.readers:=fun hm=>hi (hone i hm)
    simp[hws,hq,whos,this,hi0]
   ·right
    rw[hst,state_eq _ rfl]
    simp[hws,hr0,hq,whos]
  ·rw[mv_stuck _ _ _ _ rfl hr]
   refine⟨⟨rfl,fun h=>(by cases h),hr0',by rw[hq] at hqw;exact hqw,?_,.inr (.inr ⟨rfl,hr,_,rfl,h0⟩)⟩,?_,?_,?_⟩
   ·intro a ha hm
    exact hdis a (by rw[hq];exact ha) ((filter_mem _ _ _).1 hm).1
   ·rw[state_eq _ rfl]
    simp only[filter_mem]
    simp[hkq]
   ·intro i hi hi0
    rw[state_eq _ rfl,hst]
    simp only[filter_mem]
    simp[hws,hq,whos,hi]
   ·left
    rw[state_eq _ rfl,hst]
    simp only[filter_mem]
    simp[hws,hq,whos,hr0]
theorem leave_writer {l:Lk}(h:LOK l)(hs:l.state 0=3) :
  LOK (l.leave 0)∧(l.leave 0).state 0=0∧(∀ i,i≠0→(l.leave 0).state i=2∧l.state i=1∨(l.leave 0).state i=0∧l.state i=0):=by
 have hst:=state_eq l h.wr
 have hs':=hs
 rw[hst] at hs'
 obtain⟨hw,hwr,hr0,hqw,hdis,hshape⟩:=h
 have hws:l.writes=true:=by
  cases hc:l.writes
  ·simp only[hc,Bool.false_eq_true,false_and,if_false,hr0] at hs'
   split at hs'<;>simp at hs'
  ·rfl
 have hr:=hwr hws
 have h0:(0:Int)∉whos l.queue:=by
  rcases hshape with⟨_,h0⟩|⟨h,_⟩|⟨h,_⟩
  ·exact h0
  ·rw[hws] at h;cases h
  ·rw[hws] at h;cases h
 have e:l.leave 0=mv l.queue [] 0 false:=by
  unfold Lk.leave
  rw[if_pos hs,hr.symm,hw.symm]
  rfl
 rw[e,mv_readers _ _ _ (LOK.readers_false hqw h0)]
 refine⟨⟨rfl,(fun h=>by cases h),by simpa using h0,by simp,by simp,.inr (.inl ⟨rfl,rfl⟩)⟩,?_,?_⟩
 ·rw[state_eq _ rfl]
  simp[h0,whos]
  simpa[whos] using h0
 ·intro i hi
  rw[state_eq _ rfl,hst]
  by_cases hm:i∈whos l.queue
  ·left
   simp[hi,hr,hm]
  ·right
   simp[hi,hr,hm]
   simp[whos]
theorem writer_waits {l:Lk}(h:LOK l)(hs:l.state 0=1):∃ k,k≠0∧l.state k=2:=by
 have hst:=state_eq l h.wr
 obtain⟨hw,hwr,hr0,hqw,hdis,hshape⟩:=h
 rw[hst] at hs
 rcases hshape with⟨hws,h0⟩|⟨hws,hq⟩|⟨hws,hne,Q,hq,h0⟩
 ·simp[hws] at hs
 ·simp[hws,hr0,hq,whos] at hs
 ·obtain⟨k,hk⟩:=List.exists_mem_of_ne_nil _ hne
  refine⟨k,fun e=>hr0 (e ▸ hk),?_⟩
  rw[hst]
  simp[hws,hk]
theorem reader_waits {l:Lk}(h:LOK l){k:Int}(hk:k≠0)(hs:l.state k=1):l.state 0=1∨l.state 0=3:=by
 have hst:=state_eq l h.wr
 obtain⟨hw,hwr,hr0,hqw,hdis,hshape⟩:=h
 rw[hst] at hs ⊢
 rcases hshape with⟨hws,h0⟩|⟨hws,hq⟩|⟨hws,hne,Q,hq,h0⟩
 ·right;simp[hws]
 ·simp only[hws,Bool.false_eq_true,false_and,if_false,hq,whos,List.map_nil,List.not_mem_nil] at hs
  split at hs<;>simp at hs
 ·left;simp[hws,hr0,hq,whos]
theorem reader_holds {l:Lk}(h:LOK l){k:Int}(hk:k≠0)(hs:l.state k=2):l.state 0≠3:=by
 have hst:=state_eq l h.wr
 obtain⟨hw,hwr,hr0,hqw,hdis,hshape⟩:=h
 rw[hst] at hs ⊢
 rcases hshape with⟨hws,h0⟩|⟨hws,hq⟩|⟨hws,hne,Q,hq,h0⟩
 ·rw[hwr hws] at hs
  simp only[hk,and_false,if_false,List.not_mem_nil] at hs
  split at hs<;>simp at hs
 ·simp[hws,hr0,hq,whos]
 ·simp[hws,hr0,hq,whos]
theorem lok_new:LOK {}:=⟨rfl,(fun h=>by cases h),by simp,by simp,by simp,.inr (.inl ⟨rfl,rfl⟩)⟩
end Go.Proofs.YtjmkkcckfbnmeaaGreatDoor.M
namespace Go.Proofs.YtjmkkcckfbnmeaaGreatDoor.M
structure Data where
 col:Col
 alive:Bool
 drawn:Int
 found:Bool
 counter:Int
 budget:Int × Int
def d0 : Data := { col := { cards := [⟨bs "a", 2, ann⟩], log := [(2, bs "a")], logMost := 9, most := 6, bytes := 9, latest := 2, horizon := 1 }, alive := true, drawn := 2, found := true, counter := 2, budget := (1, 9) }
def coreOf (d:Data)(l:Lk)(h:List Wt)(now dl:Int):Core :=
 { cols:=2,cards:=6,maxBytes:=65536,logMost:=9,counter:=d.counter,place:=some { col:=d.col,lock:=l,alive:=d.alive,drawn:=d.drawn },found:=d.found,budget:=some d.budget,hub:=h,now:=now,alarms:=h.map fun x=>(x.who,dl) }
def dataOf (x:Core):Data:=match x.place with
 | some p=>⟨p.col,p.alive,p.drawn,x.found,x.counter,x.budget.getD (0,0)⟩
 | none=>d0
def Data.work (d:Data)(q:Req):Data × Resp:=(dataOf ((coreOf d {} [] 0 0).work q).1,((coreOf d {} [] 0 0).work q).2)
def Data.applyOp (d:Data)(o:Op)(t:Int):Data:={ d with col:=d.col.apply o t }
section
variable (d:Data) (l:Lk) (h:List Wt) (now dl:Int) (q:Req)
theorem work_coreOf:(coreOf d l h now dl).work q=(coreOf (d.work q).1 l h now dl,(d.work q).2):=by
 unfold Data.work Core.work coreOf
 simp only[]
 cases ha:d.alive
 ·simp[dataOf,ha]
 ·simp only[Bool.not_true,Bool.false_eq_true,if_false]
  split
  ·rfl
  split
  ·unfold Core.write
   simp only[]
   split<;>(simp[dataOf];try assumption)
  split
  ·unfold Core.write
   simp only[]
   split<;>(simp[dataOf];try assumption)
  split
  ·unfold Core.write
   simp only[]
   split<;>(simp[dataOf];try assumption)
  split
  ·split<;>(simp[dataOf];try assumption)
  split
  ·simp[dataOf];try assumption
  split
  ·split<;>(simp[dataOf];try assumption)
  ·simp[dataOf];try assumption
theorem find_coreOf:(coreOf d l h now dl).find=if d.found then 0 else -1:=rfl
theorem alive_coreOf:(coreOf d l h now dl).alive 0=d.alive:=by simp[coreOf,Core.alive]
theorem held_coreOf (who:Int):(coreOf d l h now dl).held 0 who=l.state who:=by simp[coreOf,Core.held]
theorem lock_coreOf (who:Int)(w:Bool):(coreOf d l h now dl).lock 0 who w=coreOf d (l.ask who w) h now dl:=by simp[coreOf,Core.lock]
theorem unlock_coreOf (who:Int):(coreOf d l h now dl).unlock 0 who false=coreOf d (l.leave who) h now dl:=by simp[coreOf,Core.unlock]
theorem wake_coreOf (who:Int):(coreOf d l h now dl).unlock 0 who true=coreOf d (l.leave who) (wakeL h 0) now dl:=by
 simp[coreOf,Core.unlock,wakeL]
 intro a _
 split<;>rfl
theorem apply_coreOf (o:Op)(t:Int):(coreOf d l h now dl).applyOp 0 o t=coreOf (d.applyOp o t) l h now dl:=by simp[coreOf,Core.applyOp,Data.applyOp]
end
def hst (h:List Wt)(k:Int):Option Bool:=(h.find? (fun x=>x.who==k)).map (·.wok)
structure HubOK (h:List Wt):Prop where
 nodup:(h.map (·.who)).Nodup
 place:∀ x∈h,x.place=0
theorem has_hst (h:List Wt)(k:Int):has k h=(hst h k).isSome:=by
 unfold has hst
 rw[Option.isSome_map]
 induction h with
 | nil=>rfl
 | cons x h ih =>
  rw[List.any_cons,List.find?_cons,ih]
  cases x.who==k<;>rfl
theorem woken_hst (h:List Wt)(k:Int):isWoken h k=(hst h k).getD false:=by
 unfold isWoken hst
 cases h.find? (fun x=>x.who==k)<;>rfl
theorem hst_append (h:List Wt)(x:Wt)(k:Int)(hx:hst h k=none):hst (h++[x]) k=if x.who=k then some x.wok else none:=by
 unfold hst at *
 rw[List.find?_append]
 simp only[Option.map_eq_none_iff] at hx
 rw[hx]
 by_cases h:x.who=k<;>simp[h]
theorem hst_append_ne (h:List Wt)(x:Wt)(k:Int)(hx:x.who≠k):hst (h++[x]) k=hst h k:=by
 unfold hst
 rw[List.find?_append]
 simp[hx]
theorem add_ok {h:List Wt}(hh:HubOK h){k:Int}(hk:hst h k=none):HubOK (h++[⟨k,0,false⟩])∧hst (h++[⟨k,0,false⟩]) k=some false∧∀ i,i≠k→hst (h++[⟨k,0,false⟩]) i=hst h i:=by
 refine⟨⟨?_,?_⟩,?_,?_⟩
 ·rw[List.map_append,List.nodup_append]
  refine⟨hh.nodup,by simp,?_⟩
  intro a ha b hb
  simp at hb
  subst hb
  intro e
  subst e
  obtain⟨x,hx,he⟩:=List.mem_map.1 ha
  unfold hst at hk
  simp only[Option.map_eq_none_iff,List.find?_eq_none] at hk
  exact hk x hx (by simpa using he)
 ·intro x hx
  rcases List.mem_append.1 hx with hx|hx
  ·exact hh.place x hx
  ·simp at hx
   simp[hx]
 ·rw[hst_append _ _ _ hk]
  simp
 ·intro i hi
  exact hst_append_ne _ _ _ (fun e=>hi e.symm)
theorem remL_sub (h:List Wt)(k:Int):(remL h k).Sublist h:=List.eraseP_sublist
theorem hst_rem_ne (h:List Wt)(k i:Int)(hi:i≠k):hst (remL h k) i=hst h i:=by
 unfold hst remL
 induction h with
 | nil=>rfl
 | cons x h ih =>
  rw[List.eraseP_cons]
  by_cases e:x.who=k
  ·have e3:¬ k=i:=fun e'=>hi e'.symm
   simp[e,e3]
  ·have:(x.who==k)=false:=by simpa using e
   simp only[this,cond_false]
   rw[List.find?_cons,List.find?_cons]
   split
   ·rfl
   ·exact ih
theorem hst_rem (h:List Wt)(hh:HubOK h)(k:Int):HubOK (remL h k)∧hst (remL h k) k=none:=by
 obtain⟨hn,hp⟩:=hh
 refine⟨⟨(hn.sublist ((remL_sub h k).map _)),fun x hx=>hp x ((remL_sub h k).subset hx)⟩,?_⟩
 unfold hst remL
 simp only[Option.map_eq_none_iff,List.find?_eq_none]
 induction h with
 | nil=>simp
 | cons x h ih =>
  rw[List.eraseP_cons]
  simp only[List.map_cons,List.nodup_cons] at hn
  by_cases e:x.who=k
  ·simp only[e,beq_self_eq_true,cond_true]
   intro y hy
   simp only[beq_iff_eq]
   intro e'
   exact hn.1 (by rw[e,←e'];exact List.mem_map_of_mem hy)
  ·have:(x.who==k)=false:=by simpa using e
   simp only[this,cond_false]
   intro y hy
   rcases List.mem_cons.1 hy with rfl|hy
   ·simpa using e
   ·exact ih hn.2 (fun z hz=>hp z (by simp[hz])) y hy
theorem wake_ok {h:List Wt}(hh:HubOK h):HubOK (wakeL h 0)∧∀ i,hst (wakeL h 0) i=(hst h i).map fun _=>true:=by
 obtain⟨hn,hp⟩:=hh
 have e:wakeL h 0=h.map fun x=>⟨x.who,x.place,true⟩:=by
  unfold wakeL
  apply List.map_congr_left
  intro x hx
  simp[hp x hx]
 rw[e]
 refine⟨⟨?_,?_⟩,?_⟩
 ·simpa[List.map_map,Function.comp_def] using hn
 ·intro x hx
  obtain⟨y,hy,rfl⟩:=List.mem_map.1 hx
  exact hp y hy
 ·intro i
  unfold hst
  rw[List.find?_map]
  simp[Function.comp_def,Option.map_map]
theorem dropA_map (h:List Wt)(dl k:Int):dropA (h.map fun x=>(x.who,dl)) k=(remL h k).map fun x=>(x.who,dl):=by
 unfold dropA remL
 induction h with
 | nil=>rfl
 | cons x h ih =>
  simp only[List.map_cons,List.eraseP_cons]
  cases x.who==k
  ·simp[ih]
  ·simp
theorem due_map (h:List Wt)(dl now k:Int):due (h.map fun x=>(x.who,dl)) now k=((hst h k).isSome&&decide (dl≤now)):=by
 unfold due hst
 rw[List.find?_map]
 simp only[Function.comp_def,Option.isSome_map]
 cases h.find? (fun x=>x.who==k)<;>simp
section
variable (d:Data) (l:Lk) (h:List Wt) (now dl:Int)
theorem awake_coreOf (who:Int):(coreOf d l h now dl).awake who=((hst h who).getD false||((hst h who).isSome&&decide (dl≤now))):=by
 unfold Core.awake coreOf
 simp only[woken_hst,due_map]
theorem sleep_coreOf (who:Int)(hk:hst h who=none):(coreOf d l h now dl).sleep who 0 dl=coreOf d l (h++[⟨who,0,false⟩]) now dl:=by
 have hh:has who h=false:=by rw[has_hst,hk];rfl
 have hr:remL h who=h:=by
  unfold remL
  apply List.eraseP_of_forall_not
  intro a ha
  unfold hst at hk
  simp only[Option.map_eq_none_iff,List.find?_eq_none] at hk
  exact hk a ha
 unfold Core.sleep coreOf
 simp[hh,addL,setA,dropA_map,hr]
theorem rise_coreOf (who:Int):(coreOf d l h now dl).rise who=coreOf d l (remL h who) now dl:=by
 unfold Core.rise coreOf
 simp[dropA_map]
end
end Go.Proofs.YtjmkkcckfbnmeaaGreatDoor.M
namespace Go.Proofs.YtjmkkcckfbnmeaaGreatDoor.M
structure Par where
 n:Nat
 waits:Nat
 ticks:Int
 write:Nat
 E0:List Ev
structure Par.Ok (P:Par):Prop where
 hw:1≤P.waits
 hn:P.waits+1≤P.n
 hm:P.n≤P.waits+5
 hx:P.waits≤5
 ht:1≤P.ticks
 hwr:P.write≤4
def Par.q (P:Par)(k:Nat):Req:=if k=0 then wr P.write else ask P.waits P.ticks k
def Par.isW (P:Par)(k:Nat):Prop:=1≤k∧k≤P.waits
instance (P:Par) (k:Nat):Decidable (P.isW k):=inferInstanceAs (Decidable (_∧_))
inductive Ph where
 | unread|seek|queue|act|sleep|rest|read|write (i:Nat)|free|ans|done
deriving DecidableEq
def taskU (q:Req)(stage:Int):Task:={ q:=q,deadline:=q.ticks,stage:=stage }
def taskP (q:Req)(stage:Int)(a:Resp)(nx:Int):Task:={ q:=q,deadline:=q.ticks,stage:=stage,point:=a,pointed:=true,next:=nx }
def At (c:Conn)(q:Req)(a:Resp):Ph→Prop
 | .unread=>c.state=1∧c.todo=[q]
 | .seek=>c.state=2∧c.todo=[]∧c.task=taskU q 1
 | .queue=>c.state=2∧c.todo=[]∧c.task=taskU q 2
 | .act=>c.state=2∧c.todo=[]∧c.task=taskU q 3
 | .sleep=>c.state=2∧c.todo=[]∧c.task=taskU q 6
 | .rest=>c.state=2∧c.todo=[]∧c.task=taskU q 7
 | .read=>c.state=2∧c.todo=[]∧c.task=taskP q 5 a 0
 | .write i=>c.state=2∧c.todo=[]∧c.task=taskP q 4 a i
 | .free=>c.state=2∧c.todo=[]∧∃ nx,c.task=taskP q 6 a nx
 | .ans=>c.state=3∧c.todo=[]∧c.reply=a
 | .done=>c.state=1∧c.todo=[]
def posOk (k:Nat)(p:Ph)(v:Int):Prop:=match p with
 | .act=>if k=0 then v=1∨v=3 else v=1∨v=2
 | .sleep|.read|.write _|.free=>v=if k=0 then 3 else 2
 | _=>v=0
def aW (w:Nat):Resp:=(d0.work (wr w)).2
def dApp (w:Nat):Nat→Data
 | 0=>(d0.work (wr w)).1
 | j+1=>match (wr w).ops[j]? with|some o=>(dApp w j).applyOp o (aW w).token|none=>dApp w j
def dEnd (w:Nat):Data:=dApp w (wr w).ops.length
def dcur (P:Par)(p0:Ph):Data:=if P.write=4 then d0 else match p0 with
 | .write i=>dApp P.write i
 | .free|.ans|.done=>dEnd P.write
 | _=>d0
def freed (P:Par)(p0:Ph):Bool:=decide (P.write<4)&&(decide (p0 = .ans)||decide (p0 = .done))
def hubOk (P:Par)(p0:Ph)(k:Nat)(p:Ph)(h:List Wt):Prop:=match p with
 | .sleep=>hst h k=some false
 | .rest=>hst h k=some (freed P p0)
 | _=>hst h k=none
structure KOk (P:Par)(p0:Ph)(now:Int)(k:Nat)(p:Ph)(a:Resp):Prop where
 sl:p = .sleep∨p = .rest→P.isW k
 sf:p = .sleep→freed P p0=false
 wt:P.isW k→p = .free∨p = .ans→a=want P.write
 wr:P.isW k→p≠.read
 w0:∀ i,p = .write i→k=0∧P.write=1∧i<3
 k0:k=0→p≠.read
 aw:k=0→(∃ i,p = .write i)∨p = .free→a=aW P.write
 nw:k=0→P.write=4→p = .done
 it:p = .read→a.items.length≤3
 un:p = .unread→now=0
 li:p = .queue∨p = .act→(P.q k).kind≠10
structure Inv (P:Par)(s:Srv)(ph:Nat→Ph)(rs:Nat→Resp)(now:Int)(l:Lk)(h:List Wt):Prop where
 core:s.core=coreOf (dcur P (ph 0)) l h now P.ticks
 len:s.conns.length=P.n
 conn:∀ k,k<P.n→∃ c,s.conns[k]? = some c∧At c (P.q k) (rs k) (ph k)
 lok:LOK l
 pos:∀ k:Nat,k<P.n→posOk k (ph k) (l.state k)
 rng:∀ i:Int,l.state i≠0→∃ k:Nat,k<P.n∧i=k
 hubn:HubOK h
 hub:∀ k,k<P.n→hubOk P (ph 0) k (ph k) h
 kok:∀ k,k<P.n→KOk P (ph 0) now k (ph k) (rs k)
 evs:∃ E,s.events=P.E0++E∧(∀ e∈E,e.kind=3→∀ k:Nat,P.isW k→e.conn=k→e.resp=want P.write) ∧
  (∀ k:Nat,k<P.n→(1≤k∨P.write<4)→((∃ e∈E,e.kind=3∧e.conn=k) ↔ ph k = .done))
 nowz:P.write<4→now=0
def upd {α:Type}(f:Nat→α)(k:Nat)(v:α):Nat→α:=fun i=>if i=k then v else f i
@[simp] theorem upd_same {α:Type} (f:Nat→α) (k:Nat) (v:α):upd f k v k=v:=by simp[upd]
theorem upd_ne {α:Type}(f:Nat→α){k i:Nat}(v:α)(h:i≠k):upd f k v i=f i:=by simp[upd,h]
theorem Inv.upd {P:Par}{s s':Srv}{ph:Nat→Ph}{rs:Nat→Resp}{now:Int}{l l':Lk}{h h':List Wt}(I:Inv P s ph rs now l h){k:Nat}(hk:k<P.n){c':Conn}{p':Ph}{a':Resp}{E':List Ev}
  (hs:s'={ core:=coreOf (dcur P (M.upd ph k p' 0)) l' h' now P.ticks,conns:=s.conns.set k c',events:=s.events++E' })
  (hat:At c' (P.q k) a' p') (hl:LOK l') (hpk:posOk k p' (l'.state k)) (hpo:∀ i:Nat,i<P.n→i≠k→posOk i (ph i) (l'.state i)) (hrng:∀ i:Int,l'.state i≠0→l.state i≠0∨i=k)
  (hhn:HubOK h') (hhk:hubOk P (M.upd ph k p' 0) k p' h') (hho:∀ i:Nat,i<P.n→i≠k→hubOk P (M.upd ph k p' 0) i (ph i) h')
  (hkk:KOk P (M.upd ph k p' 0) now k p' a') (hko:∀ i:Nat,i<P.n→i≠k→ph i = .sleep→freed P (M.upd ph k p' 0)=false)
  (hev:∀ e∈E',e.kind=3→e.conn=k∧p' = .done∧(P.isW k→e.resp=want P.write)) (hdn:p' = .done→(∃ e∈E',e.kind=3∧e.conn=k)) (hnd:ph k≠.done) :
  Inv P s' (M.upd ph k p') (M.upd rs k a') now l' h':=by
 subst hs
 obtain⟨icore,ilen,iconn,ilok,ipos,irng,ihubn,ihub,ikok,⟨E,he,he1,he2⟩,inow⟩:=I
 refine⟨rfl,by simpa using ilen,?_,hl,?_,?_,hhn,?_,?_,⟨E++E',by simp[he],?_,?_⟩,inow⟩
 ·intro i hi
  by_cases e:i=k
  ·subst e
   refine⟨c',?_,by simpa using hat⟩
   simp[List.getElem?_set,ilen,hi]
  ·obtain⟨c,hc,ha⟩:=iconn i hi
   refine⟨c,?_,by rw[upd_ne _ _ e,upd_ne _ _ e];exact ha⟩
   rw[List.getElem?_set_ne (fun e'=>e e'.symm)]
   exact hc
 ·intro i hi
  by_cases e:i=k
  ·subst e;simpa using hpk
  ·rw[upd_ne _ _ e];exact hpo i hi e
 ·intro i hi
  rcases hrng i hi with h|h
  ·exact irng i h
  ·exact⟨k,hk,h⟩
 ·intro i hi
  by_cases e:i=k
  ·subst e;simpa using hhk
  ·rw[upd_ne _ _ e];exact hho i hi e
 ·intro i hi
  by_cases e:i=k
  ·subst e;simpa using hkk
  ·rw[upd_ne _ _ e,upd_ne _ _ e]
   have o:=ikok i hi
   exact⟨o.sl,fun hp=>hko i hi e hp,o.wt,o.wr,o.w0,o.k0,o.aw,o.nw,o.it,o.un,o.li⟩
 ·intro e hm h3 i hw hc
  rcases List.mem_append.1 hm with hm|hm
  ·exact he1 e hm h3 i hw hc
  ·obtain⟨h4,_,h5⟩:=hev e hm h3
   have:i=k:=by omega
   subst this
   exact h5 hw
 ·intro i hi hc
  have o:=he2 i hi hc
  by_cases e:i=k
  ·subst e
   simp only[upd_same]
   constructor
   ·rintro ⟨e,hm,h3,h4⟩
    rcases List.mem_append.1 hm with hm|hm
    ·exact absurd (o.1 ⟨e,hm,h3,h4⟩) hnd
    ·exact(hev e hm h3).2.1
   ·intro hp
    obtain⟨e,hm,h3⟩:=hdn hp
    exact⟨e,by simp[hm],h3⟩
  ·rw[upd_ne _ _ e,←o]
   constructor
   ·rintro ⟨x,hm,h3,h4⟩
    rcases List.mem_append.1 hm with hm|hm
    ·exact⟨x,hm,h3,h4⟩
    ·have:=(hev x hm h3).1
     omega
   ·rintro ⟨x,hm,h3⟩
    exact⟨x,by simp[hm],h3⟩
theorem aW_err (w:Nat)(h:w<4):(aW w).err=0∧(aW w).items=[]:=by
 match w,h with
 | 0,_=>decide
 | 1,_=>decide
 | 2,_=>decide
 | 3,_=>decide
theorem d0_facts:d0.found=true∧d0.alive=true∧d0.col.latest=2:=by decide
theorem dEnd_facts (w:Nat)(h:w<4):(w=3→(dEnd w).found=false∧(dEnd w).alive=false)∧(w≠3→(dEnd w).found=true∧(dEnd w).alive=true∧(dEnd w).col.latest=3):=by
 match w,h with
 | 0,_=>decide
 | 1,_=>decide
 | 2,_=>decide
 | 3,_=>decide
theorem dApp_facts (i:Nat)(h:i<3):(dApp 1 i).found=true∧(dApp 1 i).alive=true:=by
 match i,h with
 | 0,_=>decide
 | 1,_=>decide
 | 2,_=>decide
end Go.Proofs.YtjmkkcckfbnmeaaGreatDoor.M
namespace Go.Proofs.YtjmkkcckfbnmeaaGreatDoor.M
section
variable {s:Srv} {k:Nat} {c:Conn}
theorem pick_cannot (h:s.can k=false):s.pick k=s:=by
 unfold Srv.pick
 split
 ·rfl
 ·simp[h]
theorem pick_read (hc:s.conns[k]? = some c)(h1:c.state=1){q:Req}(ht:c.todo=[q])(hq:q.kind≠1) :
  s.can k=true∧s.pick k={ core:=s.core,conns:=s.conns.set k { c with todo:=[],seq:=c.seq+1,turn:=q,task:=Task.start s.core q,state:=2 },events:=s.events++[⟨1,k,c.seq+1,{ kind:=0 }⟩] }:=by
 have hcan:s.can k=true:=by simp[Srv.can,hc,h1,ht]
 refine⟨hcan,?_⟩
 unfold Srv.pick
 simp[hc,hcan,h1,ht,hq]
theorem pick_busy (hc:s.conns[k]? = some c)(h2:c.state=2)(hcan:c.task.can s.core k=true){x':Core}{t':Task}(hst:c.task.step s.core k=(x',t'))(h8:t'.stage≠8) :
  s.can k=true∧s.pick k={ core:=x',conns:=s.conns.set k { c with task:=t' },events:=s.events++if t'.pointed&&!c.task.pointed then [(⟨2,k,c.seq,t'.point⟩:Ev)] else [] }:=by
 have hc':s.can k=true:=by simp[Srv.can,hc,h2,hcan]
 refine⟨hc',?_⟩
 unfold Srv.pick
 simp[hc,hc',h2,hst,h8]
theorem pick_over (hc:s.conns[k]? = some c)(h2:c.state=2)(hcan:c.task.can s.core k=true){x':Core}{t':Task}(hst:c.task.step s.core k=(x',t'))(h8:t'.stage=8) :
  s.can k=true∧s.pick k={ core:=x',conns:=s.conns.set k { c with task:=t',state:=3,reply:=t'.point },events:=s.events++if t'.pointed&&!c.task.pointed then [(⟨2,k,c.seq,t'.point⟩:Ev)] else [] }:=by
 have hc':s.can k=true:=by simp[Srv.can,hc,h2,hcan]
 refine⟨hc',?_⟩
 unfold Srv.pick
 simp[hc,hc',h2,hst,h8]
theorem pick_ans (hc:s.conns[k]? = some c)(h3:c.state=3) :
  s.can k=true∧s.pick k={ core:=s.core,conns:=s.conns.set k { c with state:=1,out:=c.out++[c.reply] },events:=s.events++[⟨3,k,c.seq,c.reply⟩] }:=by
 have hc':s.can k=true:=by simp[Srv.can,hc,h3]
 refine⟨hc',?_⟩
 unfold Srv.pick
 simp[hc,hc',h3]
end
inductive Tr (P:Par) (p0:Ph) (now:Int) (k:Nat):Ph→Ph→Prop
 | read:Tr P p0 now k .unread .seek
 | found:(dcur P p0).found=true→Tr P p0 now k .seek .queue
 | list:k≠0→¬ P.isW k→Tr P p0 now k .seek .ans
 | none:k≠0→(dcur P p0).found=false→Tr P p0 now k .seek .ans
 | ask:Tr P p0 now k .queue .act
 | gone:k≠0→(dcur P p0).alive=false→p0≠.free→(∀ i,p0≠.write i)→Tr P p0 now k .act .seek
 | sleep:P.isW k→(dcur P p0).alive=true→(dcur P p0).col.latest=2→now<P.ticks→Tr P p0 now k .act .sleep
 | got:k≠0→(dcur P p0).alive=true→p0≠.free→(∀ i,p0≠.write i)→(P.isW k→(dcur P p0).col.latest=3∨P.ticks≤now)→Tr P p0 now k .act .free
 | items:k≠0→¬ P.isW k→(P.q k).kind=8→Tr P p0 now k .act .read
 | wrote:k=0→Tr P p0 now k .act .free
 | batch:k=0→Tr P p0 now k .act (.write 0)
 | rest:Tr P p0 now k .sleep .rest
 | rise:P.isW k→(freed P p0=true∨P.ticks≤now)→Tr P p0 now k .rest .seek
 | readd:Tr P p0 now k .read .free
 | apply (i:Nat):Tr P p0 now k (.write i) (.write (i+1))
 | applied (i:Nat):Tr P p0 now k (.write i) .free
 | freed:Tr P p0 now k .free .ans
 | told:Tr P p0 now k .ans .done
theorem q_waiter {P:Par}{k:Nat}(hw:P.isW k):P.q k={ kind:=9,col:=home,token:=2,ticks:=P.ticks }:=by
 obtain⟨h1,h2⟩:=hw
 unfold Par.q ask
 rw[if_neg (by omega),if_neg (by omega)]
theorem q_asker {P:Par}{k:Nat}(h0:k≠0)(hw:¬ P.isW k):(P.q k).ticks=0∧((P.q k).kind=8∧(P.q k).token=0∨(P.q k).kind=6∨(P.q k).kind=10∨(P.q k).kind=9∧(P.q k).token=0):=by
 have hk:k > P.waits:=by
  rcases Nat.lt_or_ge P.waits k with h|h
  ·exact h
  ·exact absurd ⟨by omega,h⟩ hw
 unfold Par.q ask
 rw[if_neg h0,if_pos hk]
 split<;>simp
theorem q_kind {P:Par}{k:Nat}(h0:k≠0):(P.q k).kind≠1∧(P.q k).kind≠2∧(P.q k).kind≠7∧M.writes (P.q k).kind=false:=by
 by_cases hw:P.isW k
 ·rw[q_waiter hw];simp[M.writes]
 ·rcases (q_asker h0 hw).2 with⟨h,_⟩|h|h|⟨h,_⟩<;>rw[h]<;>decide
def Calm (d:Data):Prop:=d=d0∨∃ w,w<4∧d=dEnd w
theorem wait_any (d:Data)(ha:d.alive=true)(q:Req)(hq:q.kind=9):d.work q=(d,if d.col.latest≤q.token then { kind:=9,err:=15 } else { kind:=9,token:=d.col.latest }):=by
 obtain⟨col,alive,drawn,found,counter,budget⟩:=d
 simp only at ha
 subst ha
 simp only[Data.work,Core.work,coreOf,hq]
 by_cases h:col.latest≤q.token<;>simp[dataOf,h]
theorem get_any (d:Data)(ha:d.alive=true)(q:Req)(hq:q.kind=6):(d.work q).1=d∧(d.work q).2.items=[]:=by
 obtain⟨col,alive,drawn,found,counter,budget⟩:=d
 simp only at ha
 subst ha
 simp only[Data.work,Core.work,coreOf,hq]
 cases getC col.cards q.uid<;>simp[dataOf]
theorem ins_length (x:Item)(l:List Item):(ins x l).length=l.length+1:=by
 induction l with
 | nil=>rfl
 | cons y r ih =>
  rw[ins]
  split
  ·simp
  ·simp[ih]
theorem sortI_length (l:List Item):(sortI l).length=l.length:=by
 unfold sortI
 have:∀ (l acc:List Item),(l.foldl (fun acc x=>ins x acc) acc).length=acc.length+l.length:=by
  intro l
  induction l with
  | nil=>intro acc;rfl
  | cons x l ih =>
   intro acc
   rw[List.foldl_cons,ih,ins_length,List.length_cons]
   omega
 simpa using this l []
theorem delta_any (d:Data)(ha:d.alive=true)(q:Req)(hq:q.kind=8):(d.work q).1=d∧(d.work q).2.items.length=d.col.cards.length:=by
 obtain⟨col,alive,drawn,found,counter,budget⟩:=d
 simp only at ha
 subst ha
 simp only[Data.work,Core.work,coreOf,hq]
 simp[dataOf,sortI_length,items]
theorem dEnd_cards (w:Nat)(h:w<4):(dEnd w).col.cards.length≤3:=by
 match w,h with
 | 0,_=>decide
 | 1,_=>decide
 | 2,_=>decide
 | 3,_=>decide
theorem calm_latest {d:Data}(hd:Calm d)(ha:d.alive=true):d.col.latest=2∨d.col.latest=3:=by
 rcases hd with rfl|⟨w,hw,rfl⟩
 ·exact .inl d0_facts.2.2
 ·have:=dEnd_facts w hw
  by_cases h3:w=3
  ·rw[(this.1 h3).2] at ha
   cases ha
  ·exact .inr (this.2 h3).2.2
theorem calm_wait {d:Data}(hd:Calm d)(ha:d.alive=true)(t:Int):d.work { kind:=9,col:=home,token:=2,ticks:=t }=(d,if d.col.latest=2 then { kind:=9,err:=15 } else { kind:=9,token:=3 }):=by
 rw[wait_any d ha _ rfl]
 rcases calm_latest hd ha with h|h<;>simp[h]
theorem calm_ask {d:Data}(hd:Calm d)(ha:d.alive=true){P:Par}{k:Nat}(h0:k≠0)(hw:¬ P.isW k)(hk:(P.q k).kind≠10) :
  (d.work (P.q k)).1=d∧((P.q k).kind=9→(d.work (P.q k)).2.err≠15)∧(d.work (P.q k)).2.items.length≤3∧((P.q k).kind≠8→(d.work (P.q k)).2.items=[]):=by
 rcases (q_asker h0 hw).2 with⟨h,_⟩|h|h|⟨h,ht⟩
 ·obtain⟨h1,h2⟩:=delta_any d ha _ h
  refine⟨h1,(fun h'=>by rw[h] at h';cases h'),?_,fun h'=>absurd h h'⟩
  rw[h2]
  rcases hd with rfl|⟨w,hw,rfl⟩
  ·decide
  ·exact dEnd_cards w hw
 ·obtain⟨h1,h2⟩:=get_any d ha _ h
  exact⟨h1,(fun h'=>by rw[h] at h';cases h'),by rw[h2];simp,fun _=>h2⟩
 ·exact absurd h hk
 ·have hl:=calm_latest hd ha
  rw[wait_any d ha _ h,ht]
  have:¬ d.col.latest≤0:=by omega
  simp[this]
theorem calm_of {P:Par}(hP:P.Ok){p0:Ph}(hw:∀ i,p0≠.write i):Calm (dcur P p0):=by
 unfold dcur
 split
 ·exact .inl rfl
 ·have:P.write<4:=by have:=hP.hwr;omega
  split
  ·exact absurd rfl (hw _)
  all_goals first|exact .inr ⟨_,this,rfl⟩|exact .inl rfl
theorem found_alive {P:Par}(hP:P.Ok){p0:Ph}(hw:∀ i,p0 = .write i→P.write=1∧i<3):(dcur P p0).found=(dcur P p0).alive:=by
 unfold dcur
 split
 ·decide
 ·have hlt:P.write<4:=by have:=hP.hwr;omega
  have hE:(dEnd P.write).found=(dEnd P.write).alive:=by
   have:=dEnd_facts P.write hlt
   by_cases h3:P.write=3
   ·rw[(this.1 h3).1,(this.1 h3).2]
   ·rw[(this.2 h3).1,(this.2 h3).2.1]
  split
  ·rename_i i
   obtain⟨h1,h2⟩:=hw i rfl
   rw[h1,(dApp_facts i h2).1,(dApp_facts i h2).2]
  all_goals first|exact hE|decide
theorem start_taskU (d:Data)(l:Lk)(h:List Wt)(now dl:Int)(q:Req)(hn:now=0):Task.start (coreOf d l h now dl) q=taskU q 1:=by
 subst hn
 simp[Task.start,taskU,coreOf]
def Stuck (P:Par)(p0:Ph)(now:Int)(l:Lk)(k:Nat)(p:Ph):Prop :=
 p = .done∨(p = .act∧l.state k=1)∨(p = .rest∧freed P p0=false∧now<P.ticks)
end Go.Proofs.YtjmkkcckfbnmeaaGreatDoor.M
namespace Go.Proofs.YtjmkkcckfbnmeaaGreatDoor.M
section
variable (d:Data) (l:Lk) (h:List Wt) (now dl:Int) (q:Req) (k:Int) (a:Resp)
theorem step_list (hq:q.kind=10):(taskU q 1).step (coreOf d l h now dl) k=(coreOf d l h now dl,(taskU q 1).settle (coreOf d l h now dl).list 8):=by
 simp[Task.step,taskU,hq]
theorem step_found (h2:q.kind≠2)(h10:q.kind≠10)(hf:d.found=true):(taskU q 1).step (coreOf d l h now dl) k=(coreOf d l h now dl,taskU q 2):=by
 simp[Task.step,taskU,h2,h10,find_coreOf,hf]
theorem step_none (h2:q.kind≠2)(h10:q.kind≠10)(hf:d.found=false):(taskU q 1).step (coreOf d l h now dl) k=(coreOf d l h now dl,{ (taskU q 1).settle { kind:=q.kind,err:=4 } 8 with id:=-1 }):=by
 simp[Task.step,taskU,h2,h10,find_coreOf,hf]
theorem step_queue:(taskU q 2).step (coreOf d l h now dl) k=(coreOf d (l.ask k (writes q.kind)) h now dl,taskU q 3):=by
 simp[Task.step,taskU,lock_coreOf]
theorem step_gone (ha:d.alive=false):(taskU q 3).step (coreOf d l h now dl) k=(coreOf d (l.leave k) h now dl,taskU q 1):=by
 simp[Task.step,taskU,alive_coreOf,ha,unlock_coreOf]
theorem step_late (ha:d.alive=true)(hq:q.kind=9)(he:(d.work q).2.err=15)(hn:now ≥ q.ticks):(taskU q 3).step (coreOf d l h now dl) k=(coreOf (d.work q).1 l h now dl,taskP q 6 (d.work q).2 0):=by
 have hn':(coreOf d l h now dl).now=now:=rfl
 simp[Task.step,taskU,taskP,alive_coreOf,ha,work_coreOf,hq,he,hn',hn,Task.settle]
theorem step_sleep (ha:d.alive=true)(hq:q.kind=9)(he:(d.work q).2.err=15)(hn:now<q.ticks)(hd:dl=q.ticks)(hh:hst h k=none):(taskU q 3).step (coreOf d l h now dl) k=(coreOf (d.work q).1 l (h++[⟨k,0,false⟩]) now dl,taskU q 6):=by
 subst hd
 have hn':(coreOf d l h now q.ticks).now=now:=rfl
 have hn'':¬ q.ticks≤now:=by omega
 simp[Task.step,taskU,alive_coreOf,ha,work_coreOf,hq,he,hn',hn'',sleep_coreOf _ _ _ _ _ _ hh]
theorem step_batch (ha:d.alive=true)(hq:q.kind=7)(he:(d.work q).2.err=0):(taskU q 3).step (coreOf d l h now dl) k=(coreOf (d.work q).1 l h now dl,taskP q 4 (d.work q).2 0):=by
 simp[Task.step,taskU,taskP,alive_coreOf,ha,work_coreOf,hq,he,Task.settle]
theorem step_items (ha:d.alive=true)(hq:q.kind=9→(d.work q).2.err≠15)(h7:q.kind≠7)(hi:0<(d.work q).2.items.length):(taskU q 3).step (coreOf d l h now dl) k=(coreOf (d.work q).1 l h now dl,taskP q 5 (d.work q).2 0):=by
 simp[Task.step,taskU,taskP,alive_coreOf,ha,work_coreOf,h7,hi,Task.settle]
 intro h9 h15
 exact absurd h15 (hq (of_decide_eq_true h9))
theorem step_plain (ha:d.alive=true)(hq:q.kind=9→(d.work q).2.err≠15)(h7:q.kind≠7)(hi:(d.work q).2.items=[]):(taskU q 3).step (coreOf d l h now dl) k=(coreOf (d.work q).1 l h now dl,taskP q 6 (d.work q).2 0):=by
 simp[Task.step,taskU,taskP,alive_coreOf,ha,work_coreOf,h7,hi,Task.settle]
 intro h9 h15
 exact absurd h15 (hq (of_decide_eq_true h9))
theorem step_write (i:Nat)(o:Op)(ho:q.ops[i]? = some o):(taskP q 4 a i).step (coreOf d l h now dl) k=(coreOf (d.applyOp o a.token) l h now dl,taskP q (if i+1=q.ops.length then 6 else 4) a (i+1:Nat)):=by
 have e:((i:Int)+1=(q.ops.length:Int))=(i+1=q.ops.length):=by
  apply propext
  omega
 simp[Task.step,taskP,ho,apply_coreOf,e]
theorem step_read (hi:a.items.length≤3):(taskP q 5 a 0).step (coreOf d l h now dl) k=(coreOf d l h now dl,taskP q 6 a 3):=by
 have:(a.items.length:Int)≤3:=by omega
 simp[Task.step,taskP,this]
theorem step_asleep:(taskU q 6).step (coreOf d l h now dl) k=(coreOf d (l.leave k) h now dl,taskU q 7):=by
 simp[Task.step,taskU,unlock_coreOf]
theorem step_free (nx:Int)(hw:writes q.kind=false):(taskP q 6 a nx).step (coreOf d l h now dl) k=(coreOf d (l.leave k) h now dl,taskP q 8 a nx):=by
 simp[Task.step,taskP,unlock_coreOf,hw]
theorem step_wake (nx:Int)(hw:writes q.kind=true)(he:a.err=0):(taskP q 6 a nx).step (coreOf d l h now dl) k=(coreOf d (l.leave k) (wakeL h 0) now dl,taskP q 8 a nx):=by
 simp[Task.step,taskP,wake_coreOf,hw,he]
theorem step_rise:(taskU q 7).step (coreOf d l h now dl) k=(coreOf d l (remL h k) now dl,taskU q 1):=by
 simp[Task.step,taskU,rise_coreOf]
theorem can_act:(taskU q 3).can (coreOf d l h now dl) k=decide (l.state k=2∨l.state k=3):=by
 simp[Task.can,taskU,held_coreOf]
theorem can_rest:(taskU q 7).can (coreOf d l h now dl) k=((hst h k).getD false||((hst h k).isSome&&decide (dl≤now))):=by
 simp[Task.can,taskU,awake_coreOf]
theorem can_plain (st:Int)(h3:st≠3)(h7:st≠7)(h8:st≠8):(taskU q st).can (coreOf d l h now dl) k=true:=by
 simp[Task.can,taskU,h3,h7,h8]
theorem can_pointed (st nx:Int)(h3:st≠3)(h7:st≠7)(h8:st≠8):(taskP q st a nx).can (coreOf d l h now dl) k=true:=by
 simp[Task.can,taskP,h3,h7,h8]
end
theorem kok_reader {P:Par}{p0:Ph}{now:Int}{k:Nat}{p:Ph}{a:Resp}(h0:k≠0)(hw:∀ i,p≠.write i)(sl:p = .sleep∨p = .rest→P.isW k)(sf:p = .sleep→freed P p0=false)(wt:P.isW k→p = .free∨p = .ans→a=want P.write)
  (wr:P.isW k→p≠.read) (it:p = .read→a.items.length≤3) (un:p = .unread→now=0) (li:p = .queue∨p = .act→(P.q k).kind≠10):KOk P p0 now k p a :=
 ⟨sl,sf,wt,wr,fun i hi=>absurd hi (hw i),fun h=>absurd h h0,fun h=>absurd h h0,fun h=>absurd h h0,it,un,li⟩
end Go.Proofs.YtjmkkcckfbnmeaaGreatDoor.M
