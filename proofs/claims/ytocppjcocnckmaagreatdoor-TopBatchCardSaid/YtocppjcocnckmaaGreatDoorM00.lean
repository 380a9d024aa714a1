/- Walks. -/
set_option maxRecDepth 100000
set_option maxHeartbeats 8000000
set_option linter.all false
namespace Go.Proofs.YtocppjcocnckmaaGreatDoor
namespace M
abbrev BS:=ByteArray
structure Op where
 del:Bool
 uid:BS
 au:BS
 ck:Int
 cv:Int
deriving DecidableEq
structure Req where
 kind:Int
 aR:BS:=⟨#[]⟩
 col:BS:=⟨#[]⟩
 uid:BS:=⟨#[]⟩
 au:BS:=⟨#[]⟩
 ck:Int:=0
 cv:Int:=0
 ops:List Op:=[]
 token:Int:=0
 aD:Int:=0
 bj:Int:=0
deriving DecidableEq
structure Item where
 uid:BS
 version:Int
 gone:Bool
 au:BS
deriving DecidableEq
structure aU where
 kind:Int
 err:Int:=0
 token:Int:=0
 version:Int:=0
 au:BS:=⟨#[]⟩
 index:Int:=0
 more:Bool:=false
 items:List Item:=[]
deriving DecidableEq
structure Ev where
 kind:Int
 conn:Int
 seq:Int
 EL:aU
deriving DecidableEq
structure Lk where
 an:List Int:=[]
 writer:Int:=0
 writes:Bool:=false
 queue:List (Int × Bool):=[]
deriving DecidableEq
def Lk.state (l:Lk)(who:Int):Int :=
 if l.writes&&l.writer==who then 3 else if l.an.contains who then 2 else if l.queue.any (λa=>a.1==who) then 1 else 0
def mv:List (Int × Bool)->List Int->Int->Bool->Lk
 | [],r,w,b=>⟨r,w,b,[]⟩
 | a::q,r,w,b =>
  if b then ⟨r,w,b,a::q⟩
  else if a.2&&decide (0<r.length) then ⟨r,w,b,a::q⟩
  else if a.2 then mv q r a.1 true
  else mv q (r++[a.1]) w false
def Lk.move (l:Lk):Lk:=mv l.queue l.an l.writer l.writes
def Lk.ask (l:Lk)(who:Int)(write:Bool):Lk:=if l.state who=0 then Lk.move { l with queue:=l.queue++[(who,write)] } else l
def Lk.leave (l:Lk)(who:Int):Lk :=
 if l.state who=3 then Lk.move { l with writes:=false }
 else if l.state who=2 then Lk.move { l with an:=l.an.filter (λx=>x != who) }
 else if l.state who=1 then Lk.move { l with queue:=l.queue.filter (λa=>a.1 != who) }
 else l
structure Wt where
 who:Int
 place:Int
 wok:Bool
deriving DecidableEq
def has (who:Int)(l:List Wt):Bool:=l.any λx=>x.who==who
def jZ (l:List Wt)(who place:Int):List Wt:=if has who l then l else l++[⟨who,place,false⟩]
def mE (l:List Wt)(who:Int):List Wt:=l.eraseP (λx=>x.who==who)
def fu (l:List Wt)(place:Int):List Wt:=l.map λx=>if x.place==place then ⟨x.who,x.place,true⟩ else x
def dO (l:List Wt)(who:Int):Bool:=match l.find? (λx=>x.who==who) with|some x=>x.wok|none=>false
def kZ (l:List (Int × Int))(who:Int):List (Int × Int):=l.eraseP (λa=>a.1==who)
def CP (l:List (Int × Int))(who a:Int):List (Int × Int):=kZ l who++[(who,a)]
def due (l:List (Int × Int))(now who:Int):Bool:=match l.find? (λa=>a.1==who) with|some x=>decide (x.2<=now)|none=>false
structure Cd where
 uid:BS
 version:Int
 text:BS
deriving DecidableEq
structure Col where
 ah:List Cd:=[]
 log:List (Int × BS):=[]
 aj:Int
 aD:Int
 bytes:Int:=0
 az:Int
 aG:Int
deriving DecidableEq
def lt (a b:BS):Bool:=decide (a.data.toList<b.data.toList)
def bR (l:List Cd)(u:BS):Option Cd:=l.find? (λc=>c.uid==u)
def gQ (l:List Cd)(c:Cd):List Cd:=if l.any (λx=>x.uid==c.uid) then l.map (λx=>if x.uid==c.uid then c else x) else l.filter (λx=>lt x.uid c.uid)++[c]++l.filter (λx=>lt c.uid x.uid)
def oB (l:List Cd)(u:BS):List Cd:=l.filter (λc=>!(c.uid==u))
def du (k v:Int)(there:Bool)(ver:Int):Bool:=if k=1 then !there else if k=2 then there else if k=3 then there&&ver==v else true
def chk (c:Col)(room:Int)(ops:List Op):Nat->Int->Int->List Op->Int × Int × Int
 | _,_,grow,[]=>(0,grow,0)
 | i,many,grow,o::r =>
  if (ops.take i).any (λp=>p.uid==o.uid) then (i,0,11)
  else
   let e:=bR c.ah o.uid
   if !du o.ck o.cv e.isSome ((e.map (·.version)).getD 0) then (i,0,6)
   else if o.del&&e.isNone then (i,0,4)
   else
    let many1:=if e.isSome then many - 1 else many
    let grow1:Int:=match e with|some x=>grow - (x.text.size:Int)|none=>grow
    let many2:=if o.del then many1 else many1+1
    let grow2:=if o.del then grow1 else grow1+(o.au.size:Int)
    if many2 > c.aD||grow2 > room then (i,0,7) else chk c room ops (i+1) many2 grow2 r
def Col.check (c:Col)(ops:List Op)(room:Int):Int × Int × Int:=chk c room ops 0 c.ah.length 0 ops
def Col.apply (c:Col)(o:Op)(token:Int):Col :=
 let e:=bR c.ah o.uid
 if token<c.az||(o.del&&e.isNone)||(!o.del&&e.isNone&&decide ((c.ah.length:Int) >= c.aD)) then c
 else
  let b1:Int:=match e with|some x=>c.bytes - (x.text.size:Int)|none=>c.bytes
  let ah:=if o.del then oB c.ah o.uid else gQ c.ah ⟨o.uid,token,o.au⟩
  let b2:=if o.del then b1 else b1+(o.au.size:Int)
  if (c.log.length:Int)<c.aj then { c with ah:=ah,bytes:=b2,log:=c.log++[(token,o.uid)],az:=token }
  else { c with ah:=ah,bytes:=b2,log:=c.log.drop 1++[(token,o.uid)],aG:=max c.aG ((c.log.head?.map (·.1)).getD 0),az:=token }
structure Place where
 col:Col
 lock:Lk:={}
 alive:Bool:=true
 drawn:Int
deriving DecidableEq
structure Core where
 bQ:Int      -- j2
 ah:Int
 aH:Int
 aj:Int
 counter:Int
 place:Option Place:=none    -- the one collection there may be
 found:Bool:=false           -- is it in the register
 aZ:Option (Int × Int):=none  -- collections,bytes
 hub:List Wt:=[]
 now:Int:=0
 ct:List (Int × Int):=[]
deriving DecidableEq
structure Task where
 q:Req
 deadline:Int
 ax:Int:=1
 id:Int:=0
 aM:aU:={ kind:=0 }
 aX:Bool:=false
 next:Int:=0
deriving DecidableEq
def writes (k:Int):Bool:=k==2||k==3||k==4||k==5||k==7
def bs (s:String):BS:=s.toUTF8
def aW:Int:=9223372036854775807
def Core.create (x:Core):Core × aU :=
 if x.found then (x,{ kind:=2,err:=5 })
 else
  let b:=x.aZ.getD (0,0)
  if b.1 >= x.bQ then ({ x with aZ:=some b },{ kind:=2,err:=7 })
  else if x.counter=aW then ({ x with aZ:=some b },{ kind:=2,err:=9 })
  else
   let t:=x.counter+1
   ({ x with counter:=t,aZ:=some (b.1+1,b.2),found:=true,place:=some { col:={ aj:=max x.aj 1,aD:=max x.ah 1,az:=t,aG:=t },drawn:=t } },{ kind:=2,token:=t })
def Core.list (x:Core):aU :=
 { kind := 10, items := match x.found, x.place with | true, some p => [⟨bs "home", p.drawn, false, ⟨#[]⟩⟩] | _, _ => [] }
def Core.find (x:Core):Int:=if x.found then 0 else -1
def Core.alive (x:Core)(id:Int):Bool:=match x.place with|some p=>id==0&&p.alive|none=>false
def Core.lock (x:Core)(id who:Int)(write:Bool):Core:=match x.place with|some p=>if id==0 then { x with place:=some { p with lock:=p.lock.ask who write } } else x|none=>x
def Core.held (x:Core)(id who:Int):Int:=match x.place with|some p=>if id==0 then p.lock.state who else 0|none=>0
def Core.unlock (x:Core)(id who:Int)(wake:Bool):Core :=
 let y:=match x.place with|some p=>if id==0 then { x with place:=some { p with lock:=p.lock.leave who } } else x|none=>x
 if wake then { y with hub:=fu y.hub id } else y
def Core.write (x:Core)(p:Place)(ops:List Op)(apply:Bool)(a:aU):Core × aU :=
 let b:=x.aZ.getD (0,0)
 let r:=p.col.check ops (x.aH - b.2)
 if r.2.2≠0 then (x,{ a with err:=r.2.2,index:=r.1 })
 else if x.counter=aW then (x,{ a with err:=9 })
 else
  let t:=x.counter+1
  let c:=if apply then ops.foldl (λc o=>c.apply o t) p.col else p.col
  ({ x with counter:=t,aZ:=some (b.1,b.2+r.2.1),place:=some { p with drawn:=t,col:=c } },{ a with token:=t })
def items (c:Col):List Item:=c.ah.map λe=>⟨e.uid,e.version,false,e.text⟩
def before (a b:Item):Bool:=decide (a.version<b.version)||(decide (a.version=b.version)&&lt a.uid b.uid)
def ins (x:Item):List Item->List Item
 | []=>[x]
 | y::r=>if before x y then x::y::r else y::ins x r
def nm (l:List Item):List Item:=l.foldl (λacc x=>ins x acc) []
def dP (c:Col)(token:Int):List (Int × BS)->List BS->List Item
 | [],_=>[]
 | (t,u)::r,seen =>
  if t<=token||seen.contains u then dP c token r (u::seen)
  else (match bR c.ah u with|some e=>⟨u,e.version,false,e.text⟩|none=>⟨u,t,true,⟨#[]⟩⟩)::dP c token r (u::seen)
def Col.since (c:Col)(token:Int):Option (List Item) :=
 if token=0 then some (nm (items c))
 else if token<c.aG∨token > c.az then none
 else some (nm (dP c token c.log.reverse []))
def Core.work (x:Core)(q:Req):Core × aU :=
 match x.place with
 | none=>(x,{ kind:=q.kind,err:=4 })
 | some p =>
  if !p.alive then (x,{ kind:=q.kind,err:=4 })
  else if q.kind=3 then
   let t:=x.counter+1
   let b:=x.aZ.getD (0,0)
   ({ x with counter:=t,found:=false,aZ:=some (max (b.1 - 1) 0,max (b.2 - p.col.bytes) 0),place:=some { p with alive:=false } },{ kind:=3,token:=t })
  else if q.kind=4 then
   let r:=x.write p [⟨false,q.uid,q.au,q.ck,q.cv⟩] true { kind:=4 }
   (r.1,{ r.2 with version:=r.2.token })
  else if q.kind=5 then x.write p [⟨true,q.uid,⟨#[]⟩,q.ck,q.cv⟩] true { kind:=5 }
  else if q.kind=7 then x.write p q.ops false { kind:=7 }
  else if q.kind=6 then
   match bR p.col.ah q.uid with
   | none=>(x,{ kind:=6,err:=4 })
   | some e=>(x,{ kind:=6,version:=e.version,au:=e.text })
  else if q.kind=8 then
   match p.col.since q.token with
   | none=>(x,{ kind:=8,err:=8 })
   | some l=>(x,{ kind:=8,token:=p.col.az,items:=l })  -- where all have one version
  else if q.kind=9 then
   if p.col.az<=q.token then (x,{ kind:=9,err:=15 }) else (x,{ kind:=9,token:=p.col.az })
  else (x,{ kind:=q.kind,err:=10 })
def Core.gG (x:Core)(id:Int)(o:Op)(t:Int):Core:=match x.place with|some p=>if id==0 then { x with place:=some { p with col:=p.col.apply o t } } else x|none=>x
def Core.sleep (x:Core)(who id at_:Int):Core:=if has who x.hub then x else { x with hub:=jZ x.hub who id,ct:=CP x.ct who at_ }
def Core.EK (x:Core)(who:Int):Core:={ x with hub:=mE x.hub who,ct:=kZ x.ct who }
def Core.pw (x:Core)(who:Int):Bool:=dO x.hub who||due x.ct x.now who
def Task.start (x:Core)(q:Req):Task:={ q:=q,deadline:=x.now+q.bj }
def Task.can (t:Task)(x:Core)(who:Int):Bool :=
 if t.ax=3 then decide (x.held t.id who=2∨x.held t.id who=3)
 else if t.ax=7 then x.pw who
 else decide (t.ax≠8)
def Task.settle (t:Task)(a:aU)(s:Int):Task:={ t with aM:=a,aX:=true,ax:=s }
def Task.step (t:Task)(x:Core)(who:Int):Core × Task :=
 if t.ax=1 then
  if t.q.kind=2 then let r:=x.create;(r.1,t.settle r.2 8)
  else if t.q.kind=10 then (x,t.settle x.list 8)
  else if x.find<0 then (x,{ t.settle { kind:=t.q.kind,err:=4 } 8 with id:=x.find })
  else (x,{ t with id:=x.find,ax:=2 })
 else if t.ax=2 then (x.lock t.id who (writes t.q.kind),{ t with ax:=3 })
 else if t.ax=3 then
  if !x.alive t.id then (x.unlock t.id who false,{ t with ax:=1 })
  else
   let r:=x.work t.q
   if t.q.kind=9&&r.2.err==15 then
    if x.now >= t.deadline then (r.1,t.settle r.2 6)
    else (r.1.sleep who t.id t.deadline,{ t with ax:=6 })
   else if t.q.kind=7&&r.2.err==0 then (r.1,t.settle r.2 4)
   else if 0<r.2.items.length then (r.1,t.settle r.2 5)
   else (r.1,t.settle r.2 6)
 else if t.ax=4 then
  let y:=match t.q.ops[t.next.toNat]? with|some o=>x.gG t.id o t.aM.token|none=>x
  (y,{ t with next:=t.next+1,ax:=if t.next+1=t.q.ops.length then 6 else 4 })
 else if t.ax=5 then (x,{ t with next:=t.next+3,ax:=if t.next+3 >= t.aM.items.length then 6 else 5 })
 else if t.ax=6 then (x.unlock t.id who (t.aX&&writes t.q.kind&&t.aM.err==0),{ t with ax:=if t.aX then 8 else 7 })
 else if t.ax=7 then (x.EK who,{ t with ax:=1 })
 else (x,t)
structure bT where
 state:Int:=1
 todo:List Req:=[]
 bound:Bool:=false
 seq:Int:=0
 task:Task:={ q:={ kind:=0 },deadline:=0 }
 dh:Req:={ kind:=0 }
 cL:aU:={ kind:=0 }
 out:List aU:=[]
deriving DecidableEq
structure Srv where
 core:Core
 ag:List bT:=[]
 events:List Ev:=[]
deriving DecidableEq
def Srv.can (s:Srv)(k:Nat):Bool:=match s.ag[k]? with
 | none=>false
 | some c=>if c.state=1 then !c.todo.isEmpty else if c.state=2 then c.task.can s.core k else decide (c.state=3)
def Srv.pick (s:Srv)(k:Nat):Srv:=match s.ag[k]? with
 | none=>s
 | some c =>
  if !s.can k then s
  else if c.state=1 then
   match c.todo with
   | []=>s
   | q::r =>
    let c1:={ c with todo:=r,seq:=c.seq+1,dh:=q }
    let e1:Ev:=⟨1,k,c.seq+1,{ kind:=0 }⟩
    if q.kind=1 then
     { s with ag:=s.ag.set k { c1 with bound:=true,state:=3,cL:={ kind:=1 } },events:=s.events++[e1,⟨2,k,c.seq+1,{ kind:=1 }⟩] }
    else { s with ag:=s.ag.set k { c1 with task:=Task.start s.core q,state:=2 },events:=s.events++[e1] }
  else if c.state=2 then
   let r:=c.task.step s.core k
   let ev:=if r.2.aX&&!c.task.aX then [(⟨2,k,c.seq,r.2.aM⟩:Ev)] else []
   if r.2.ax=8 then { s with core:=r.1,ag:=s.ag.set k { c with task:=r.2,state:=3,cL:=r.2.aM },events:=s.events++ev }
   else { s with core:=r.1,ag:=s.ag.set k { c with task:=r.2 },events:=s.events++ev }
  else { s with ag:=s.ag.set k { c with state:=1,out:=c.out++[c.cL] },events:=s.events++[⟨3,k,c.seq,c.cL⟩] }
def rounds (s:Srv)(n:Nat):Nat->Srv
 | 0=>s
 | t+1=>rounds ((List.range n).foldl Srv.pick s) n t
def Srv.send (s:Srv)(k:Nat)(q:List Req):Srv:=match s.ag[k]? with|some c=>{ s with ag:=s.ag.set k { c with todo:=c.todo++q } }|none=>s
def ann : BS := bs "name:Ann\n"
def bob : BS := bs "name:Bob\n"
def home : BS := bs "home"
def ua : BS := bs "a"
def ub : BS := bs "b"
def eh : Req := { kind := 1, aR := bs "ann" }
def eb:Req:={ kind:=2,col:=home }
def kq : List BS := [ann, bs "name:Bob\ntel:+4930123456\n", bs "name:Cy\nmail;home:cy@example.org\n", bs "name:Di\nday:1999-12-31\nnote:likes hens\n", bs "name:Ed\norg:Coop\ntel;cell:01601234567\nmail;work:ed@coop.example.org\n"]
def eN (n:Nat):BS:=(kq[n % 5]?).getD ann
def jE (n:Nat):Req:={ kind:=7,col:=home,ops:=[⟨false,ua,eN n,0,0⟩,⟨false,ub,eN n,0,0⟩] }
def s6:Req:={ kind:=7,col:=home,ops:=[⟨true,ua,⟨#[]⟩,0,0⟩,⟨true,ub,⟨#[]⟩,0,0⟩] }
def gA (t m:Int):Req:={ kind:=8,col:=home,token:=t,aD:=m }
def xz:Req:={ kind:=6,col:=home,uid:=ua }
structure Move where
 pF:Int
 conn:Int
 n:Int
def Move.k (m:Move):Nat:=(m.conn % 4).toNat
def Move.w (m:Move):Nat:=(m.pF % 4).toNat
def Move.q (start:Int)(drop:Bool)(m:Move):Req :=
 if m.w=1 then (if drop&&decide (m.n / 8 % 2=1) then s6 else jE (m.n % 8).toNat)
 else if m.w=2 then gA (m.n % 16+if m.n / 64 % 2=1/\start<1099511627776 then start else 0) (1+m.n / 16 % 4)
 else xz
structure Cfg where
 ag:Int
 start:Int
 room:Int
 dD:Int
 bQ:Int
 ah:Int
 bytes:Int
 log:Int
def Cfg.core (c:Cfg):Core:={ bQ:=c.bQ,ah:=c.ah,aH:=c.bytes,aj:=c.log,counter:=c.start }
def Srv.outs (s:Srv)(k:Nat):List aU:=match s.ag[k]? with|some c=>c.out|none=>[]
def Srv.take (s:Srv)(k:Nat):Srv:=match s.ag[k]? with|some c=>{ s with ag:=s.ag.set k { c with out:=[] } }|none=>s
def qi (l:List Item):Bool :=
 decide (l=[])||match l with
 | [x,y]=>x.uid==ua&&y.uid==ub&&x.version==y.version&&x.gone==y.gone&&x.au==y.au
 | _=>false
def kR (e:Ev):Bool:=!(e.kind==3&&e.EL.kind==8&&e.EL.err==0)||qi e.EL.items
def eP (q:List (Int × Bool)):List Int:=q.map (·.1)
structure LK (l:Lk):Prop where
 wr:l.writes=true->l.an=[]
 nd:(l.an++eP l.queue).Nodup
 nw:l.writes=true->l.writer∉eP l.queue
def Out (l:Lk)(k:Int):Prop:=k∉l.an/\k∉eP l.queue/\¬ (l.writes=true/\l.writer=k)
def Wt' (l:Lk)(k:Int)(f:Bool):Prop:=(k,f)∈l.queue
def Rd (l:Lk)(k:Int):Prop:=k∈l.an
def Wr (l:Lk)(k:Int):Prop:=l.writes=true/\l.writer=k
structure Adv (l l':Lk)(i:Int):Prop where
 o:Out l i->Out l' i
 r:Rd l i->Rd l' i
 w:Wr l i->Wr l' i
 q:∀ f,Wt' l i f->Wt' l' i f∨(f=true/\Wr l' i)∨(f=false/\Rd l' i)
theorem Adv.refl (l:Lk)(i:Int):Adv l l i:=⟨id,id,id,λ_ h=>.inl h⟩
theorem A2 {q:List (Int × Bool)}{k:Int} : k∈eP q ↔ ∃ f,(k,f)∈q:=by
 simp[eP]
theorem Cu (q:List (Int × Bool))(k:Int):q.any (λa=>a.1==k)=decide (k∈eP q):=by
 induction q with
 | nil=>simp[eP]
 | cons a q ih =>
  simp only[List.any_cons,ih,eP,List.map_cons,List.mem_cons]
  by_cases h:a.1=k
  ·simp[h]
  have h':¬ k=a.1:=λe=>h e.symm
  simp[h,h']
theorem iw (l:Lk)(k:Int):l.state k=if l.writes=true/\l.writer=k then 3 else if k∈l.an then 2 else if k∈eP l.queue then 1 else 0:=by
 unfold Lk.state
 rw[Cu]
 cases l.writes<;>simp
theorem sd:∀ (q:List (Int × Bool)) (r:List Int) (w:Int) (b:Bool),LK ⟨r,w,b,q⟩->LK (mv q r w b)/\∀ i,Adv ⟨r,w,b,q⟩ (mv q r w b) i
 | [],r,w,b,h=>by rw[mv];exact⟨h,λi=>Adv.refl _ i⟩
 | (a,f)::q,r,w,b,h=>by
  rw[mv]
  cases b
  ·simp only[Bool.false_eq_true,if_false]
   have nd:(r++a::eP q).Nodup:=h.nd
   by_cases hs:(f&&decide (0<r.length))=true
   ·rw[if_pos hs]
    exact⟨h,λi=>Adv.refl _ i⟩
   rw[if_neg hs]
   cases f
   ·simp only[Bool.false_eq_true,if_false]
    have h1:LK ⟨r++[a],w,false,q⟩:=⟨λe=>(by cases e),by simpa using nd,λe=>(by cases e)⟩
    obtain⟨k1,k2⟩:=sd q (r++[a]) w false h1
    refine⟨k1,λi=>?_⟩
    have A:=k2 i
    refine⟨λ⟨o1,o2,o3⟩=>A.o ⟨?_,?_,o3⟩,λhr=>A.r (List.mem_append_left _ hr),λhw=>(by cases hw.1),λg hg=>?_⟩
    ·simp only[eP,List.map_cons,List.mem_cons,not_or] at o2
     simp only[List.mem_append,List.mem_singleton,not_or]
     exact⟨o1,o2.1⟩
    ·simp only[eP,List.map_cons,List.mem_cons,not_or] at o2
     exact o2.2
    rcases List.mem_cons.1 hg with e|hg
    ·cases e
     exact .inr (.inr ⟨rfl,A.r (by simp[Rd])⟩)
    exact A.q g hg
   have hr:r=[]:=by
    simp at hs
    exact hs
   subst hr
   simp only[if_true]
   have h1:LK ⟨[],a,true,q⟩:=⟨λ_=>rfl,by simpa using (List.nodup_cons.1 (by simpa using nd)).2,λ_=>(List.nodup_cons.1 (by simpa using nd)).1⟩
   obtain⟨k1,k2⟩:=sd q [] a true h1
   refine⟨k1,λi=>?_⟩
   have A:=k2 i
   refine⟨λ⟨o1,o2,o3⟩=>A.o ⟨o1,?_,?_⟩,λhr=>(by cases hr),λhw=>(by cases hw.1),λg hg=>?_⟩
   ·simp only[eP,List.map_cons,List.mem_cons,not_or] at o2
    exact o2.2
   ·simp only[eP,List.map_cons,List.mem_cons,not_or] at o2
    exact λe=>o2.1 e.2.symm
   rcases List.mem_cons.1 hg with e|hg
   ·cases e
    exact .inr (.inl ⟨rfl,A.w ⟨rfl,rfl⟩⟩)
   exact A.q g hg
  simp only[if_true]
  exact⟨h,λi=>Adv.refl _ i⟩
theorem Fp {l:Lk}(h:LK l){k:Int}(hk:Out l k)(f:Bool):LK (l.ask k f)/\(∀ i,i≠k->Adv l (l.ask k f) i)/\(Wt' (l.ask k f) k f∨(f=true/\Wr (l.ask k f) k)∨(f=false/\Rd (l.ask k f) k)):=by
 obtain⟨o1,o2,o3⟩:=hk
 have hs:l.state k=0:=by
  rw[iw,if_neg o3,if_neg o1,if_neg o2]
 have e:l.ask k f=mv (l.queue++[(k,f)]) l.an l.writer l.writes:=by
  unfold Lk.ask
  rw[if_pos hs]
  rfl
 have hw:eP (l.queue++[(k,f)])=eP l.queue++[k]:=by simp[eP]
 have h1:LK ⟨l.an,l.writer,l.writes,l.queue++[(k,f)]⟩:=by
  refine⟨h.wr,?_,λe=>?_⟩
  ·show (l.an++eP (l.queue++[(k,f)])).Nodup
   rw[hw,<-List.append_assoc,List.nodup_append]
   refine⟨h.nd,by simp,λx hx y hy e'=>?_⟩
   simp at hy
   rw[e',hy] at hx
   rcases List.mem_append.1 hx with hx|hx
   ·exact o1 hx
   exact o2 hx
  show l.writer∉eP (l.queue++[(k,f)])
  rw[hw,List.mem_append,not_or]
  exact⟨h.nw e,λhm=>o3 ⟨e,by simpa using hm⟩⟩
 obtain⟨k1,k2⟩:=sd _ _ _ _ h1
 rw[e]
 refine⟨k1,λi hi=>?_,(k2 k).q f (by simp[Wt'])⟩
 have A:=k2 i
 refine⟨λ⟨q1,q2,q3⟩=>A.o ⟨q1,?_,q3⟩,A.r,A.w,λg hg=>A.q g (List.mem_append_left _ hg)⟩
 show i∉eP (l.queue++[(k,f)])
 rw[hw,List.mem_append,not_or]
 exact⟨q2,by simpa using hi⟩
theorem Bj {l:Lk}(h:LK l){k:Int}(hk:Rd l k∨Wr l k):LK (l.leave k)/\(∀ i,i≠k->Adv l (l.leave k) i)/\Out (l.leave k) k:=by
 unfold Lk.leave
 by_cases hw:Wr l k
 ·have hs:l.state k=3:=by rw[iw];exact if_pos hw
  rw[if_pos hs]
  have h1:LK ⟨l.an,l.writer,false,l.queue⟩:=⟨λe=>(by cases e),h.nd,λe=>(by cases e)⟩
  obtain⟨k1,k2⟩:=sd _ _ _ _ h1
  have e:Lk.move { l with writes:=false }=mv l.queue l.an l.writer false:=rfl
  rw[e]
  refine⟨k1,λi hi=>?_,(k2 k).o ⟨?_,?_,λe=>(by cases e.1)⟩⟩
  ·have A:=k2 i
   exact⟨λ⟨q1,q2,q3⟩=>A.o ⟨q1,q2,λe=>(by cases e.1)⟩,A.r,λe=>absurd (hw.2.symm.trans e.2).symm hi,A.q⟩
  ·show k∉l.an
   rw[h.wr hw.1]
   simp
  show k∉eP l.queue
  rw[<-hw.2]
  exact h.nw hw.1
 have hr:Rd l k:=hk.resolve_right hw
 have hs:l.state k=2:=by rw[iw];exact(if_neg hw).trans (if_pos hr)
 have hb:l.writes=false:=by
  cases e:l.writes
  ·rfl
  have:=h.wr e
  rw[Rd,this] at hr
  cases hr
 rw[if_neg (by rw[hs];decide),if_pos hs]
 have hsub:(l.an.filter (λx=>x != k)++eP l.queue).Sublist (l.an++eP l.queue):=List.Sublist.append List.filter_sublist (List.Sublist.refl _)
 have h1:LK ⟨l.an.filter (λx=>x != k),l.writer,l.writes,l.queue⟩:=⟨(λe=>by rw[hb] at e;cases e),h.nd.sublist hsub,λe=>h.nw e⟩
 obtain⟨k1,k2⟩:=sd _ _ _ _ h1
 have e:Lk.move { l with an:=l.an.filter (λx=>x != k) }=mv l.queue (l.an.filter (λx=>x != k)) l.writer l.writes:=rfl
 rw[e]
 refine⟨k1,λi hi=>?_,(k2 k).o ⟨?_,?_,hw⟩⟩
 ·have A:=k2 i
  refine⟨λ⟨q1,q2,q3⟩=>A.o ⟨λhm=>q1 (List.mem_filter.1 hm).1,q2,q3⟩,λhm=>A.r (List.mem_filter.2 ⟨hm,by simpa using hi⟩),A.w,A.q⟩
 ·show k∉l.an.filter (λx=>x != k)
  simp
 show k∉eP l.queue
 intro hm
 have:=List.nodup_append.1 h.nd
 exact this.2.2 k hr k hm rfl
theorem ki {l:Lk}(h:LK l){i k:Int}(hi:Wr l i)(hk:Rd l k∨Wr l k):k=i:=by
 rcases hk with hk|hk
 ·rw[Rd,h.wr hi.1] at hk
  cases hk
 exact hk.2.symm.trans hi.2
theorem ng {l:Lk}{k:Int} : (l.state k=2∨l.state k=3)->Rd l k∨Wr l k:=by
 rw[iw]
 intro h
 by_cases hw:l.writes=true/\l.writer=k
 ·exact .inr hw
 rw[if_neg hw] at h
 by_cases hr:k∈l.an
 ·exact .inl hr
 rw[if_neg hr] at h
 split at h<;>simp at h
theorem zR {l:Lk}{k:Int}(h:Wr l k):l.state k=3:=by rw[iw];exact if_pos h
theorem zS {l:Lk}{k:Int}(h:LK l)(hr:Rd l k):l.state k=2:=by
 rw[iw];exact(if_neg (λhw=>by rw[Rd,h.wr hw.1] at hr;cases hr)).trans (if_pos hr)
theorem E0:LK {}:=⟨λ_=>rfl,by simp[eP],λe=>(by cases e)⟩
theorem pR (k:Int):Out {} k:=⟨by simp,by simp[eP],λe=>(by cases e.1)⟩
theorem Ch (a b:BS):(a==b)=decide (a=b):=by
 have h:(a==b)=(a.data==b.data):=rfl
 rw[h]
 by_cases e:a=b
 ·subst e;simp
 have:a.data≠b.data:=λh=>e (ByteArray.ext h)
 simp[e,this]
theorem oy:LawfulBEq BS where
 eq_of_beq {a b} h:=by rw[Ch] at h;exact of_decide_eq_true h
 rfl {a}:=by rw[Ch];simp
def mf (l:List Cd):Int:=(l.map λc=>(c.text.size:Int)).sum
structure Whole (c:Col):Prop where
 aD:1<=c.aD
 lm:1<=c.aj
 ah:c.ah=[]∨∃ t:BS,t.size<=80/\c.ah=[⟨ua,c.az,t⟩,⟨ub,c.az,t⟩]
 log:∀ e∈c.log,e.1<=c.az/\(e.2=ua∨e.2=ub)
 tail:(c.log=[]/\c.ah=[])∨(∃ r,c.log=r++[(c.az,ua),(c.az,ub)])∨c.az<=c.aG
 len:(c.log.length:Int)<=c.aj
 bytes:c.bytes=mf c.ah
theorem pq (c:Col)(token:Int):∀ (l:List (Int × BS)) (seen:List BS),(∀ e∈l,e.1<=token)->dP c token l seen=[]
 | [],_,_=>rfl
 | (t,u)::l,seen,h=>by
  have h1:t<=token:=h (t,u) (by simp)
  rw[dP]
  simp only[h1,decide_true,Bool.true_or,if_true]
  exact pq c token l _ λe he=>h e (by simp[he])
theorem pv (c:Col)(token:Int):∀ (l:List (Int × BS)) (seen:List BS),(∀ e∈l,e.2∈seen)->dP c token l seen=[]
 | [],_,_=>rfl
 | (t,u)::l,seen,h=>by
  have:=oy
  have h1:seen.contains u=true:=by simpa using h (t,u) (by simp)
  rw[dP]
  simp only[h1,Bool.or_true,if_true]
  exact pv c token l _ λe he=>by simp[h e (by simp[he])]
theorem uab:(ua==ub)=false/\(ub==ua)=false/\lt ua ub=true/\lt ub ua=false/\ua≠ub:=by decide +kernel
def two (v:Int)(g:Bool)(t:BS):List Item:=[⟨ua,v,g,t⟩,⟨ub,v,g,t⟩]
theorem By (v:Int)(g:Bool)(t:BS):qi (two v g t)=true:=by
 have:=oy
 simp[qi,two]
theorem vP (v:Int)(g:Bool)(t:BS):nm (two v g t)=two v g t:=by
 simp[nm,two,ins,before,uab.2.2.2.1]
theorem vN (v:Int)(g:Bool)(t:BS):nm [⟨ub,v,g,t⟩,⟨ua,v,g,t⟩]=two v g t:=by
 simp[nm,two,ins,before,uab.2.2.1]
inductive Raw (c:Col) (token:Int):Prop
 | none:token≠0->token<c.aG∨token > c.az->Raw c token
 | live:token=0->(items c=[]∨∃ t:BS,t.size<=80/\items c=two c.az false t)->Raw c token
 | back:token≠0->¬ (token<c.aG∨token > c.az)->(dP c token c.log.reverse []=[]∨∃ (g:Bool) (t:BS),t.size<=80/\dP c token c.log.reverse []=[⟨ub,c.az,g,t⟩,⟨ua,c.az,g,t⟩])->Raw c token
theorem ik (v:Int)(t:BS):bR [⟨ua,v,t⟩,⟨ub,v,t⟩] ua=some ⟨ua,v,t⟩/\bR [⟨ua,v,t⟩,⟨ub,v,t⟩] ub=some ⟨ub,v,t⟩:=by
 have:=oy
 simp[bR,uab.1]
theorem Au {c:Col}(h:Whole c)(token:Int):Raw c token:=by
 by_cases h0:token=0
 ·refine .live h0 ?_
  rcases h.ah with e|⟨t,ht,e⟩
  ·exact .inl (by simp[items,e])
  exact .inr ⟨t,ht,by simp[items,e,two]⟩
 by_cases h1:token<c.aG∨token > c.az
 ·exact .none h0 h1
 refine .back h0 h1 ?_
 have hskip:c.az<=token->dP c token c.log.reverse []=[]:=λhl=>pq c token _ _ λe he=>by
  have:=(h.log e (by simpa using he)).1
  omega
 rcases h.tail with⟨e,_⟩|⟨r,e⟩|e
 ·exact .inl (by rw[e];rfl)
 ·by_cases hl:c.az<=token
  ·exact .inl (hskip hl)
  right
  have hr:c.log.reverse=(c.az,ub)::(c.az,ua)::r.reverse:=by rw[e];simp
  have hrest:dP c token r.reverse [ua,ub]=[]:=pv c token _ _ λx hx=>by
   have:=(h.log x (by rw[e];simp at hx;simp[hx])).2
   rcases this with g|g<;>simp[g]
  have hd:decide (c.az<=token)=false:=decide_eq_false hl
  have hn1:([]:List BS).contains ub=false:=rfl
  have hn2:[ub].contains ua=false:=by simp[uab.1]
  rw[hr]
  simp only[dP,hd,hn1,hn2,Bool.false_or,Bool.false_eq_true,if_false,hrest]
  rcases h.ah with g|⟨t,ht,g⟩
  ·exact⟨true,⟨#[]⟩,by decide,by rw[g];rfl⟩
  refine⟨false,t,ht,?_⟩
  rw[g,(ik _ _).1,(ik _ _).2]
 exact .inl (hskip (by omega))
theorem nr {c:Col}(h:Whole c)(token:Int):c.since token=none∨c.since token=some []∨∃ (g:Bool) (t:BS),t.size<=80/\c.since token=some (two c.az g t):=by
 unfold Col.since
 cases Au h token with
 | none h0 h1=>rw[if_neg h0,if_pos h1];exact .inl rfl
 | live h0 h1 =>
  rw[if_pos h0]
  rcases h1 with e|⟨t,ht,e⟩
  ·rw[e];exact .inr (.inl rfl)
  rw[e,vP];exact .inr (.inr ⟨false,t,ht,rfl⟩)
 | back h0 h1 h2 =>
  rw[if_neg h0,if_neg h1]
  rcases h2 with e|⟨g,t,ht,e⟩
  ·rw[e];exact .inr (.inl rfl)
  rw[e,vN];exact .inr (.inr ⟨g,t,ht,rfl⟩)
def Gr (ops:List Op):Prop:=(∃ t:BS,t.size<=80/\ops=[⟨false,ua,t,0,0⟩,⟨false,ub,t,0,0⟩])∨ops=[⟨true,ua,⟨#[]⟩,0,0⟩,⟨true,ub,⟨#[]⟩,0,0⟩]
def cM (c:Col)(o:Op)(t:Int):Bool :=
 decide (c.az<=t/\1<=c.aj/\(c.log.length:Int)<=c.aj/\c.log.length<=90/\c.ah.length<1000/\0<=c.bytes/\c.bytes<=1000000000/\o.au.size<=100000) &&
 (if o.del then (match bR c.ah o.uid with|some e=>decide ((e.text.size:Int)<=c.bytes)|none=>false)
  else (match bR c.ah o.uid with|some e=>decide ((e.text.size:Int)<=c.bytes)|none=>c.ah.all (λx=>lt x.uid o.uid)&&decide ((c.ah.length:Int)<c.aD)))
def eE (c:Col)(T:Int)(u:BS):List (Int × BS) × Int :=
 if (c.log.length:Int)<c.aj then (c.log++[(T,u)],c.aG) else (c.log.drop 1++[(T,u)],max c.aG ((c.log.head?.map (·.1)).getD 0))
theorem ff (c:Col)(o:Op)(T:Int)(h:c.az<=T)(hd:o.del=true->(bR c.ah o.uid).isSome=true)(hp:o.del=false->bR c.ah o.uid=none->(c.ah.length:Int)<c.aD) :
  c.apply o T={ c with ah:=if o.del then oB c.ah o.uid else gQ c.ah ⟨o.uid,T,o.au⟩,bytes:=(match bR c.ah o.uid with|some x=>c.bytes - (x.text.size:Int)|none=>c.bytes)+(if o.del then 0 else (o.au.size:Int)),log:=(eE c T o.uid).1,aG:=(eE c T o.uid).2,az:=T }:=by
 have h1:¬ T<c.az:=by omega
 have hc:(decide (T<c.az)||(o.del&&(bR c.ah o.uid).isNone)||(!o.del&&(bR c.ah o.uid).isNone&&decide ((c.ah.length:Int) >= c.aD)))=false:=by
  cases hde:o.del
  ·cases hg:bR c.ah o.uid with
   | none =>
    have:=hp hde hg
    simp[h1]
    omega
   | some x=>simp[h1]
  have:=hd hde
  cases hg:bR c.ah o.uid with
  | none=>rw[hg] at this;cases this
  | some x=>simp[h1]
 unfold Col.apply
 simp only[hc,Bool.false_eq_true,if_false]
 unfold eE
 cases hg:bR c.ah o.uid<;>(split<;>(cases o.del<;>simp))
theorem nD {log:List (Int × BS)}{lm hz v T:Int}(hl:∀ e∈log,e.1<=v/\(e.2=ua∨e.2=ub))(h1:1<=lm)(hlen:(log.length:Int)<=lm)(hvT:v<=T) :
  ∀ (c1 c2:Col),c1.log=log->c1.aj=lm->c1.aG=hz->c2.log=(eE c1 T ua).1->c2.aG=(eE c1 T ua).2->c2.aj=lm ->
   (∀ e∈(eE c2 T ub).1,e.1<=T/\(e.2=ua∨e.2=ub))/\((∃ r,(eE c2 T ub).1=r++[(T,ua),(T,ub)])∨T<=(eE c2 T ub).2)/\((eE c2 T ub).1.length:Int)<=lm/\(c2.log.length:Int)<=lm:=by
 intro c1 c2 e1 e2 e3 e4 e5 e6
 obtain⟨r1,hr1,hr2,hr3⟩:∃ r1,c2.log=r1++[(T,ua)]/\(∀ e∈r1,e.1<=T/\(e.2=ua∨e.2=ub))/\(r1.length:Int)+1<=lm:=by
  rw[e4]
  unfold eE
  rw[e1,e2]
  split
  ·exact⟨log,rfl,λe he=>⟨Int.le_trans (hl e he).1 hvT,(hl e he).2⟩,by omega⟩
  exact⟨log.drop 1,rfl,λe he=>⟨Int.le_trans (hl e (List.mem_of_mem_drop he)).1 hvT,(hl e (List.mem_of_mem_drop he)).2⟩,by simp;omega⟩
 have hlen2:(c2.log.length:Int)<=lm:=by rw[hr1];simp;omega
 refine⟨?_,?_,?_,hlen2⟩
 ·unfold eE
  rw[hr1]
  split
  ·intro e he
   simp only[List.mem_append,List.mem_singleton] at he
   rcases he with(he|he)|he
   ·exact hr2 e he
   ·rw[he];exact⟨Int.le_refl _,.inl rfl⟩
   rw[he];exact⟨Int.le_refl _,.inr rfl⟩
  intro e he
  rcases List.mem_append.1 he with he|he
  ·have:=List.mem_of_mem_drop he
   rcases List.mem_append.1 this with he|he
   ·exact hr2 e he
   simp at he;rw[he];exact⟨Int.le_refl _,.inl rfl⟩
  simp at he;rw[he];exact⟨Int.le_refl _,.inr rfl⟩
 ·unfold eE
  rw[hr1]
  split
  ·exact .inl ⟨r1,by simp⟩
  cases r1 with
  | nil=>right;simp;omega
  | cons x r1=>exact .inl ⟨r1,by simp⟩
 unfold eE
 rw[e6]
 split
 ·simp;omega
 simp;omega
theorem qf (th:Bool)(v:Int):du 0 0 th v=true:=rfl
def oP (u t:BS):Op:=⟨false,u,t,0,0⟩
def oD (u:BS):Op:=⟨true,u,⟨#[]⟩,0,0⟩
theorem kU (u:BS):bR [] u=none:=rfl
theorem BX (c:Col)(room:Int)(t:BS)(hc:c.ah=[]):c.check [oP ua t,oP ub t] room=if 1 > c.aD∨(t.size:Int) > room then (0,0,7) else if 2 > c.aD∨(t.size:Int)+t.size > room then (1,0,7) else (0,(t.size:Int)+t.size,0):=by
 have:=oy
 have h1:(ua==ub)=false:=uab.1
 simp only[Col.check,chk,oP,hc,kU,qf,List.take_zero,List.any_nil,List.length_nil,Option.isSome_none,Option.isNone_none,Bool.and_true,Bool.false_eq_true,if_false,Bool.not_true,Option.map_none,List.take_succ_cons,List.any_cons,h1,Bool.or_self,Bool.and_false,Bool.false_and]
 simp
theorem BV (c:Col)(room:Int)(t s:BS)(v:Int)(hc:c.ah=[⟨ua,v,s⟩,⟨ub,v,s⟩]):c.check [oP ua t,oP ub t] room=if 2 > c.aD∨0 - (s.size:Int)+t.size > room then (0,0,7) else if 2 > c.aD∨0 - (s.size:Int)+t.size - s.size+t.size > room then (1,0,7) else (0,0 - (s.size:Int)+t.size - s.size+t.size,0):=by
 have:=oy
 have h1:(ua==ub)=false:=uab.1
 simp only[Col.check,chk,oP,hc,(ik v s).1,(ik v s).2,qf,List.take_zero,List.any_nil,List.length_cons,List.length_nil,Option.isSome_some,Option.isNone_some,Bool.and_true,Bool.false_eq_true,if_false,Bool.not_true,Option.map_some,List.take_succ_cons,List.any_cons,h1,Bool.or_self,Bool.and_false,Bool.false_and,if_true]
 simp
theorem BZ (c:Col)(room:Int)(hc:c.ah=[]):c.check [oD ua,oD ub] room=(0,0,4):=by
 simp[Col.check,chk,oD,hc,kU,qf]
theorem BY (c:Col)(room:Int)(s:BS)(v:Int)(hc:c.ah=[⟨ua,v,s⟩,⟨ub,v,s⟩]):c.check [oD ua,oD ub] room=if 1 > c.aD∨0 - (s.size:Int) > room then (0,0,7) else if 0 > c.aD∨0 - (s.size:Int) - s.size > room then (1,0,7) else (0,0 - (s.size:Int) - s.size,0):=by
 have:=oy
 have h1:(ua==ub)=false:=uab.1
 simp only[Col.check,chk,oD,hc,(ik v s).1,(ik v s).2,qf,List.take_zero,List.any_nil,List.length_cons,List.length_nil,Option.isSome_some,Option.isNone_some,Bool.and_true,Bool.false_eq_true,if_false,Bool.not_true,Option.map_some,List.take_succ_cons,List.any_cons,h1,Bool.or_self,Bool.and_false,Bool.false_and,if_true]
 simp
structure Ek (c:Col)(ops:List Op)(grow room T:Int):Prop where
 m0:∀ o,ops[0]? = some o->cM c o T=true
 m1:∀ o0 o1,ops[0]? = some o0->ops[1]? = some o1->cM (c.apply o0 T) o1 T=true
 whole:Whole (ops.foldl (λc o=>c.apply o T) c)
 bytes:(ops.foldl (λc o=>c.apply o T) c).bytes=c.bytes+grow
 az:(ops.foldl (λc o=>c.apply o T) c).az=T
 lm:(ops.foldl (λc o=>c.apply o T) c).aj=c.aj
 room:grow<=room
section
variable {c:Col} (h:Whole c) (hl:c.aj<=64) {T:Int} (hT:c.az<=T)
include h hl hT
theorem sG {room:Int}{t:BS}(ht:t.size<=80)(hk:(c.check [oP ua t,oP ub t] room).2.2=0):Ek c [oP ua t,oP ub t] (c.check [oP ua t,oP ub t] room).2.1 room T:=by
 have hlen:(c.log.length:Int)<=c.aj:=h.len
 have hlm:=h.lm
 have haa:(ua==ua)=true:=by decide +kernel
 have hbb:(ub==ub)=true:=by decide +kernel
 rcases h.ah with e|⟨s,hs,e⟩
 ·have hb0:c.bytes=0:=by rw[h.bytes,e];rfl
  rw[BX c room t e] at hk ⊢
  by_cases g1:1 > c.aD∨(t.size:Int) > room
  ·rw[if_pos g1] at hk;cases hk
  rw[if_neg g1] at hk ⊢
  by_cases g2:2 > c.aD∨(t.size:Int)+t.size > room
  ·rw[if_pos g2] at hk;cases hk
  rw[if_neg g2]
  have e1:=ff c (oP ua t) T hT (λh=>by cases h) (λ_ _=>by rw[e];simp;omega)
  generalize hc1:c.apply (oP ua t) T=c1 at *
  have c1c:c1.ah=[⟨ua,T,t⟩]:=by rw[e1];simp[oP,e,gQ]
  have c1b:c1.bytes=t.size:=by rw[e1];simp[oP,e,kU,hb0]
  have c1m:c1.aD=c.aD:=by rw[e1]
  have c1l:c1.aj=c.aj:=by rw[e1]
  have c1t:c1.az=T:=by rw[e1]
  have hg:bR c1.ah ub=none:=by rw[c1c];simp[bR,uab.1]
  have e2:=ff c1 (oP ub t) T (by omega) (λh=>by cases h) (λ_ _=>by rw[c1c];simp;omega)
  obtain⟨q1,q2,q3,q4⟩:=nD (log:=c.log) (lm:=c.aj) (hz:=c.aG) (v:=c.az) (T:=T) h.log hlm hlen hT c c1 rfl rfl rfl (by rw[e1];rfl) (by rw[e1];rfl) c1l
  generalize hc2:c1.apply (oP ub t) T=c2 at *
  have c2c:c2.ah=[⟨ua,T,t⟩,⟨ub,T,t⟩]:=by rw[e2];simp[oP,c1c,gQ,uab.1,uab.2.2.1,uab.2.2.2.1]
  have hf:[oP ua t,oP ub t].foldl (λc o=>c.apply o T) c=c2:=by simp[hc1,hc2]
  have c2b:c2.bytes=t.size+t.size:=by rw[e2];simp[oP,hg,c1b]
  refine⟨λo ho=>?_,λo0 o1 h0 h1=>?_,?_,by rw[hf,c2b,hb0];simp,by rw[hf,e2],by rw[hf,e2,c1l],by simp;omega⟩
  ·cases ho
   simp[cM,oP,e,kU,hb0]
   omega
  ·cases h0
   cases h1
   rw[hc1]
   simp[cM,oP,c1c,c1b,c1m,c1l,c1t,show bR [(⟨ua,T,t⟩:Cd)] ub=none by simp[bR,uab.1],uab.2.2.1]
   omega
  rw[hf]
  have l2:c2.az=T:=by rw[e2]
  refine⟨by rw[e2,c1m];exact h.aD,by rw[e2,c1l];exact hlm,.inr ⟨t,ht,by rw[l2];exact c2c⟩,by rw[l2,e2];exact q1,.inr ?_,by rw[e2];simp only;rw[c1l];exact q3,by rw[c2b,c2c];simp[mf]⟩
  rw[l2,e2]
  exact q2
 have hb0:c.bytes=s.size+s.size:=by rw[h.bytes,e];simp[mf]
 rw[BV c room t s c.az e] at hk ⊢
 by_cases g1:2 > c.aD∨0 - (s.size:Int)+t.size > room
 ·rw[if_pos g1] at hk;cases hk
 rw[if_neg g1] at hk ⊢
 by_cases g2:2 > c.aD∨0 - (s.size:Int)+t.size - s.size+t.size > room
 ·rw[if_pos g2] at hk;cases hk
 rw[if_neg g2]
 have ga:bR c.ah ua=some ⟨ua,c.az,s⟩:=by rw[e];exact(ik _ _).1
 have e1:=ff c (oP ua t) T hT (λh=>by cases h) (λ_ hn=>by rw[show (oP ua t).uid=ua from rfl,ga] at hn;cases hn)
 generalize hc1:c.apply (oP ua t) T=c1 at *
 have c1c:c1.ah=[⟨ua,T,t⟩,⟨ub,c.az,s⟩]:=by rw[e1];simp[oP,e,gQ,haa,uab.2.1]
 have c1b:c1.bytes=s.size+t.size:=by rw[e1];simp[oP,ga,hb0]
 have c1m:c1.aD=c.aD:=by rw[e1]
 have c1l:c1.aj=c.aj:=by rw[e1]
 have c1t:c1.az=T:=by rw[e1]
 have hg:bR c1.ah ub=some ⟨ub,c.az,s⟩:=by rw[c1c];simp[bR,uab.1,hbb]
 have e2:=ff c1 (oP ub t) T (by omega) (λh=>by cases h) (λ_ hn=>by rw[show (oP ub t).uid=ub from rfl,hg] at hn;cases hn)
 obtain⟨q1,q2,q3,q4⟩:=nD (log:=c.log) (lm:=c.aj) (hz:=c.aG) (v:=c.az) (T:=T) h.log hlm hlen hT c c1 rfl rfl rfl (by rw[e1];rfl) (by rw[e1];rfl) c1l
 generalize hc2:c1.apply (oP ub t) T=c2 at *
 have c2c:c2.ah=[⟨ua,T,t⟩,⟨ub,T,t⟩]:=by rw[e2];simp[oP,c1c,gQ,uab.1,hbb]
 have hf:[oP ua t,oP ub t].foldl (λc o=>c.apply o T) c=c2:=by simp[hc1,hc2]
 have c2b:c2.bytes=t.size+t.size:=by rw[e2];simp only[oP,hg,c1b,Bool.false_eq_true,if_false];show (s.size:Int)+t.size - s.size+t.size=_;omega
 refine⟨λo ho=>?_,λo0 o1 h0 h1=>?_,?_,by rw[hf,c2b,hb0];simp;omega,by rw[hf,e2],by rw[hf,e2,c1l],by simp;omega⟩
 ·cases ho
  simp[cM,oP,ga,hb0]
  rw[e]
  simp
  omega
 ·cases h0
  cases h1
  rw[hc1]
  simp[cM,oP,hg,c1b,c1l,c1t]
  rw[c1c]
  simp
  omega
 rw[hf]
 have l2:c2.az=T:=by rw[e2]
 refine⟨by rw[e2,c1m];exact h.aD,by rw[e2,c1l];exact hlm,.inr ⟨t,ht,by rw[l2];exact c2c⟩,by rw[l2,e2];exact q1,.inr ?_,by rw[e2];simp only;rw[c1l];exact q3,by rw[c2b,c2c];simp[mf]⟩
 rw[l2,e2]
 exact q2
theorem sH {room:Int}(hk:(c.check [oD ua,oD ub] room).2.2=0):Ek c [oD ua,oD ub] (c.check [oD ua,oD ub] room).2.1 room T:=by
 have hlen:(c.log.length:Int)<=c.aj:=h.len
 have hlm:=h.lm
 have z0:(⟨#[]⟩:BS).size=0:=rfl
 have haa:(ua==ua)=true:=by decide +kernel
 have hbb:(ub==ub)=true:=by decide +kernel
 rcases h.ah with e|⟨s,hs,e⟩
 ·rw[BZ c room e] at hk
  cases hk
 have hb0:c.bytes=s.size+s.size:=by rw[h.bytes,e];simp[mf]
 rw[BY c room s c.az e] at hk ⊢
 by_cases g1:1 > c.aD∨0 - (s.size:Int) > room
 ·rw[if_pos g1] at hk;cases hk
 rw[if_neg g1] at hk ⊢
 by_cases g2:0 > c.aD∨0 - (s.size:Int) - s.size > room
 ·rw[if_pos g2] at hk;cases hk
 rw[if_neg g2]
 have ga:bR c.ah ua=some ⟨ua,c.az,s⟩:=by rw[e];exact(ik _ _).1
 have e1:=ff c (oD ua) T hT (λ_=>by rw[show (oD ua).uid=ua from rfl,ga];rfl) (λh=>by cases h)
 generalize hc1:c.apply (oD ua) T=c1 at *
 have c1c:c1.ah=[⟨ub,c.az,s⟩]:=by rw[e1];simp[oD,e,oB,haa,uab.2.1]
 have c1b:c1.bytes=s.size:=by rw[e1];simp[oD,ga,hb0]
 have c1m:c1.aD=c.aD:=by rw[e1]
 have c1l:c1.aj=c.aj:=by rw[e1]
 have c1t:c1.az=T:=by rw[e1]
 have hg:bR c1.ah ub=some ⟨ub,c.az,s⟩:=by rw[c1c];simp[bR,hbb]
 have e2:=ff c1 (oD ub) T (by omega) (λ_=>by rw[show (oD ub).uid=ub from rfl,hg];rfl) (λh=>by cases h)
 obtain⟨q1,q2,q3,q4⟩:=nD (log:=c.log) (lm:=c.aj) (hz:=c.aG) (v:=c.az) (T:=T) h.log hlm hlen hT c c1 rfl rfl rfl (by rw[e1];rfl) (by rw[e1];rfl) c1l
 generalize hc2:c1.apply (oD ub) T=c2 at *
 have c2c:c2.ah=[]:=by rw[e2];simp[oD,c1c,oB,hbb]
 have hf:[oD ua,oD ub].foldl (λc o=>c.apply o T) c=c2:=by simp[hc1,hc2]
 have c2b:c2.bytes=0:=by rw[e2];simp[oD,hg,c1b]
 refine⟨λo ho=>?_,λo0 o1 h0 h1=>?_,?_,by rw[hf,c2b,hb0];simp;omega,by rw[hf,e2],by rw[hf,e2,c1l],by simp;omega⟩
 ·cases ho
  simp[cM,oD,ga,hb0,z0]
  rw[e]
  simp
  omega
 ·cases h0
  cases h1
  rw[hc1]
  simp[cM,oD,hg,c1b,c1l,c1t,z0]
  rw[c1c]
  simp
  omega
 rw[hf]
 have l2:c2.az=T:=by rw[e2]
 refine⟨by rw[e2,c1m];exact h.aD,by rw[e2,c1l];exact hlm,.inl c2c,by rw[l2,e2];exact q1,.inr ?_,by rw[e2];simp only;rw[c1l];exact q3,by rw[c2b,c2c];simp[mf]⟩
 rw[l2,e2]
 exact q2
end
def pZ (i:Item):Bool:=decide (1<=i.uid.size/\i.uid.size<=4/\0<=i.version/\i.version<=aW/\i.au.size<=80)
def bH (a:aU):Bool:=decide (0<=a.kind/\a.kind<=11/\0<=a.err/\a.err<=15/\0<=a.token/\a.token<=aW/\0<=a.version/\a.version<=aW/\a.au.size<=80/\0<=a.index/\a.index<=247/\a.items.length<=2)&&a.items.all pZ
structure Cfg.Ok (c:Cfg):Prop where
 n0:4<=c.ag
 n1:c.ag<=12
 s0:0<=c.start
 s1:c.start<=aW
 r0:20006<=c.room
 r1:c.room<=40000
 h0:1<=c.dD
 h1:c.dD<=16
 c0:1<=c.bQ
 c1:c.bQ<=8
 d0:1<=c.ah
 d1:c.ah<=16
 b0:1<=c.bytes
 b1:c.bytes<=1048576
 l0:1<=c.log
 l1:c.log<=64
inductive Rq:Req->Prop
 | create:Rq eb
 | put (n:Nat):Rq (jE n)
 | del:Rq s6
 | delta (t m:Int):0<=t->t<=1099511627791->1<=m->m<=4->Rq (gA t m)
 | get:Rq xz
structure PR (a:aU):Prop where
 ok:bH a=true
 qi:a.kind=8->a.err=0->qi a.items=true
 few:a.items.length<=2
def Rest (T B:Int):Col->List Op->Prop
 | c,[]=>Whole c/\c.bytes=B/\c.aj<=64
 | c,o::r=>cM c o T=true/\Rest T B (c.apply o T) r
def qL (L:Option Lk)(k:Int):Prop:=∀ l,L=some l->Out l k
structure jG (L:Option Lk)(k:Int)(t:Task):Prop where
 rq:Rq t.q
 st:t.ax=1∨t.ax=2∨t.ax=3∨t.ax=4∨t.ax=5∨t.ax=6
 dl:t.deadline=0
 free:t.ax=1∨t.ax=2->qL L k
 un:t.ax<=3->t.aX=false
 po:4<=t.ax->t.aX=true/\PR t.aM
 pl:2<=t.ax->t.id=0/\t.q.kind≠2/\∃ l,L=some l
 act:t.ax=3->∀ l,L=some l->Wt' l k (writes t.q.kind)∨(writes t.q.kind=true/\Wr l k)∨(writes t.q.kind=false/\Rd l k)
 hold:4<=t.ax->∀ l,L=some l->Rd l k∨Wr l k
 wr:t.ax=4->t.q.kind=7/\t.aM.err=0/\0<=t.next/\t.next<t.q.ops.length/\∀ l,L=some l->Wr l k
 rd:t.ax=5->t.next=0
 nx:t.ax<=3->t.next=0
structure eI (N:Nat)(L:Option Lk)(k:Int)(c:bT):Prop where
 todo:(c.bound=false/\∃ r,c.todo=eh::r/\∀ q∈r,Rq q)∨(c.bound=true/\∀ q∈c.todo,Rq q)
 num:0<=c.seq/\c.seq+c.todo.length<=N
 outs:(c.out.length:Int)+(if c.state=1 then 0 else 1)<=c.seq
 out:∀ a∈c.out,bH a=true
 st:(c.state=1/\qL L k)∨(c.state=2/\c.bound=true/\c.dh=c.task.q/\jG L k c.task)∨(c.state=3/\c.bound=true/\qL L k/\PR c.cL/\(Rq c.dh∨c.dh=eh))
structure CC (cf:Cfg)(x:Core)(p:Place)(B:Int):Prop where
 found:x.found=true
 alive:p.alive=true
 drawn:0<=p.drawn/\p.drawn<=aW
 lk:LK p.lock
 rng:∀ i:Int,i<0∨4<=i->Out p.lock i
 lat:0<=p.col.az/\p.col.az<=x.counter
 bud:x.aZ=some (1,B)
 b0:0<=B
 b1:B<=cf.bytes
structure zo (s:Srv)(p:Place)(B:Int):Prop where
 busy:∀ (k:Nat) c,s.ag[k]? = some c->c.state=2->c.task.ax=4->c.task.aM.token<=s.core.counter/\Rest c.task.aM.token B p.col (c.task.q.ops.drop c.task.next.toNat)
 calm:(∀ (k:Nat) c,s.ag[k]? = some c->¬ (c.state=2/\c.task.ax=4))->Whole p.col/\p.col.bytes=B/\p.col.aj<=64
structure cO (cf:Cfg)(N:Nat)(s:Srv):Prop where
 len:s.ag.length=4
 bQ:s.core.bQ=cf.bQ
 ah:s.core.ah=cf.ah
 bytes:s.core.aH=cf.bytes
 log:s.core.aj=cf.log
 c0:cf.start<=s.core.counter
 c1:s.core.counter<=aW
 hub:s.core.hub=[]
 ct:s.core.ct=[]
 now:s.core.now=0
 pn:s.core.place=none->s.core.found=false/\(s.core.aZ=none∨s.core.aZ=some (0,0))
 ps:∀ p,s.core.place=some p->∃ B,CC cf s.core p B/\zo s p B
 ag:∀ (k:Nat) c,s.ag[k]? = some c->eI N (s.core.place.map (·.lock)) k c
 evs:∀ e∈s.events,kR e=true
def CE (L L':Option Lk)(i:Int):Prop:=(L=none->qL L' i)/\∀ l,L=some l->∃ l',L'=some l'/\Adv l l' i
theorem CE.refl (L:Option Lk)(i:Int)(h:L=none->qL L i):CE L L i:=⟨h,λl e=>⟨l,e,Adv.refl l i⟩⟩
theorem CE.free {L L':Option Lk}{i:Int}(h:CE L L' i)(hf:qL L i):qL L' i:=by
 cases hL:L with
 | none=>exact h.1 hL
 | some l =>
  obtain⟨l',e,a⟩:=h.2 l hL
  intro l2 e2
  rw[e] at e2
  cases e2
  exact a.o (hf l hL)
theorem jG.adv {L L':Option Lk}{k:Int}{t:Task}(h:jG L k t)(a:CE L L' k):jG L' k t:=by
 have hs:∀ l',L'=some l'->2<=t.ax->∃ l,L=some l/\Adv l l' k:=λl' e hst=>by
  obtain⟨_,_,l,hl⟩:=h.pl hst
  obtain⟨l2,e2,a2⟩:=a.2 l hl
  rw[e] at e2
  cases e2
  exact⟨l,hl,a2⟩
 refine⟨h.rq,h.st,h.dl,λhst=>a.free (h.free hst),h.un,h.po,λhst=>?_,λhst l' e=>?_,λhst l' e=>?_,λhst=>?_,h.rd,h.nx⟩
 ·obtain⟨h1,h2,l,hl⟩:=h.pl hst
  obtain⟨l',e,_⟩:=a.2 l hl
  exact⟨h1,h2,l',e⟩
 ·obtain⟨l,hl,a2⟩:=hs l' e (by omega)
  rcases h.act hst l hl with g|⟨g1,g2⟩|⟨g1,g2⟩
  ·rcases a2.q _ g with g|⟨g1,g2⟩|⟨g1,g2⟩
   ·exact .inl g
   ·exact .inr (.inl ⟨g1,g2⟩)
   exact .inr (.inr ⟨g1,g2⟩)
  ·exact .inr (.inl ⟨g1,a2.w g2⟩)
  exact .inr (.inr ⟨g1,a2.r g2⟩)
 ·obtain⟨l,hl,a2⟩:=hs l' e (by omega)
  rcases h.hold hst l hl with g|g
  ·exact .inl (a2.r g)
  exact .inr (a2.w g)
 obtain⟨h1,h2,h3,h4,h5⟩:=h.wr hst
 refine⟨h1,h2,h3,h4,λl' e=>?_⟩
 obtain⟨l,hl,a2⟩:=hs l' e (by omega)
 exact a2.w (h5 l hl)
theorem eI.adv {N:Nat}{L L':Option Lk}{k:Int}{c:bT}(h:eI N L k c)(a:CE L L' k):eI N L' k c:=by
 refine⟨h.todo,h.num,h.outs,h.out,?_⟩
 rcases h.st with⟨h1,h2⟩|⟨h1,h2,h3,h4⟩|⟨h1,h2,h3,h4,h5⟩
 ·exact .inl ⟨h1,a.free h2⟩
 ·exact .inr (.inl ⟨h1,h2,h3,h4.adv a⟩)
 exact .inr (.inr ⟨h1,h2,a.free h3,h4,h5⟩)
def chain:List Item->Bool
 | []=>true
 | [_]=>true
 | a::b::l=>before a b&&chain (b::l)
def Dq (c:UInt8):Bool:=decide (97<=(c.toNat:Int))&&decide ((c.toNat:Int)<=122)
def gB (s:BS):Bool:=decide (1<=s.size)&&decide (s.size<=16)&&s.data.toList.all Dq
def aY (k v:Int):Bool:=if k=0∨k=1∨k=2 then v==0 else if k=3 then decide (1<=v) else false
def jf (s:BS):Bool:=kq.any λc=>decide (s=c)
def Di (o : Op) : Bool := gB o.uid && decide (o.uid.size <= 4) && aY o.ck o.cv && decide (o.cv <= 247) && (if o.del then decide (o.au = ⟨#[]⟩) else jf o.au || decide (o.au = bs "name:Bob\n"))
def bF (q:Req):Bool :=
 if q.kind = 1 then decide (q = { kind := 1, aR := bs "ann" })
 else if q.kind=2 then decide (q={ kind:=2,col:=home })
 else if q.kind=4 then decide (q={ kind:=4,col:=home,uid:=q.uid,au:=q.au,ck:=q.ck,cv:=q.cv })&&Di ⟨false,q.uid,q.au,q.ck,q.cv⟩
 else if q.kind=6 then decide (q={ kind:=6,col:=home,uid:=q.uid })&&gB q.uid
 else if q.kind=7 then decide (q={ kind:=7,col:=home,ops:=q.ops })&&decide (1<=q.ops.length/\q.ops.length<=2)&&q.ops.all Di
 else if q.kind=8 then decide (q={ kind:=8,col:=home,token:=q.token,aD:=q.aD })&&decide (0<=q.token/\q.token<=1099511627791/\1<=q.aD/\q.aD<=247)
 else decide (q={ kind:=9,col:=home,token:=q.token,bj:=q.bj })&&decide (0<=q.token/\q.token<=247/\0<=q.bj/\q.bj<=247)
def pM (x:Core):Bool:=decide (1<=x.bQ/\x.bQ<=8/\1<=x.ah/\x.ah<=16/\1<=x.aH/\x.aH<=1048576/\1<=x.aj/\x.aj<=64)
def mayCore (x:Core):Bool:=pM x&&decide (0<=x.counter/\x.counter<=aW/\0<=x.now/\x.now<=1000000/\x.hub.length<=90/\x.ct.length<=90)
def eU (x:Core)(c:Col)(b:Int × Int)(ops:List Op)(apply:Bool):Bool :=
 let r:=c.check ops (x.aH - b.2)
 decide (0<=b.2/\b.2<=x.aH/\ops.length<=20/\c.ah.length<=1000)&&ops.all (λo=>aY o.ck o.cv&&decide (o.au.size<=100000))&&c.ah.all (λy=>decide (y.text.size<=100000)) &&
 (decide (r.2.2≠0)||(decide (0<=b.2+r.2.1/\r.2.1<=x.aH - b.2)&&(!apply||(List.range ops.length).all λj=>match ops[j]? with|some o=>cM ((ops.take j).foldl (λc o=>c.apply o (x.counter+1)) c) o (x.counter+1)|none=>true)))
open Classical in
noncomputable def pE (c:Col):Bool:=decide (Whole c)
noncomputable def fT (x:Core) (c:Col) (q:Req):Bool :=
 if q.kind=4 then (match x.aZ with|some b=>eU x c b [⟨false,q.uid,q.au,q.ck,q.cv⟩] true|none=>false)
 else if q.kind=7 then (match x.aZ with|some b=>eU x c b q.ops false|none=>false)
 else if q.kind=8 then decide (1<=q.aD)&&pE c
 else decide (q.kind=6∨q.kind=9)
def eo (x:Core)(t:Task):Bool:=mayCore x&&(decide (t.ax≠3)||(x.place.isSome&&decide (t.id=0)))
noncomputable def fV (x:Core) (t:Task) (who:Int):Bool :=
 bF t.q&&mayCore x&&decide (0<=t.deadline/\t.deadline<=1000000)&&(!t.aX||bH t.aM)&&(!(t.step x who).2.aX||bH (t.step x who).2.aM) &&
 (if t.ax=1 then (if t.q.kind=2 then !x.found&&x.place.isNone&&decide (0<=(x.aZ.getD (0,0)).1/\(x.aZ.getD (0,0)).1<x.bQ) else true)
  else match x.place with
   | none=>false
   | some p=>decide (t.id=0/\p.lock.an.length+p.lock.queue.length<=90) &&
    (if t.ax=2 then true
    else if t.ax=3 then !p.alive||fT x p.col t.q
    else if t.ax=4 then decide (0<=t.next/\t.next<=100)&&(match t.q.ops[t.next.toNat]? with|some o=>cM p.col o t.aM.token|none=>false)
    else if t.ax=5 then decide (0<=t.next/\t.next<=100)
    else if t.ax=6 then decide (p.lock.state who=3∨p.lock.state who=2)
    else decide (t.ax=7)))
noncomputable def kL (s:Srv) (k:Nat) (c:bT):Bool :=
 decide (0<=c.seq/\c.seq<=100/\c.todo.length<=62/\c.out.length<=62)&&c.todo.all bF&&c.out.all bH &&
  (if c.state=1 then (match c.todo with|[]=>true|q::_=>(q.kind==1) != c.bound)
  else if c.state=2 then bF c.dh&&eo s.core c.task&&(!c.task.can s.core k||fV s.core c.task k)
  else decide (c.state=3)&&bF c.dh&&bH c.cL)
noncomputable def gZ (s:Srv) (k:Nat):Bool:=mayCore s.core&&(match s.ag[k]? with|none=>true|some c=>kL s k c)
def lk (x:Core):Option Lk:=x.place.map (·.lock)
structure Ej (x x':Core):Prop where
 bQ:x'.bQ=x.bQ
 ah:x'.ah=x.ah
 bytes:x'.aH=x.aH
 log:x'.aj=x.aj
 hub:x'.hub=x.hub
 ct:x'.ct=x.ct
 now:x'.now=x.now
theorem Ej.refl (x:Core):Ej x x:=⟨rfl,rfl,rfl,rfl,rfl,rfl,rfl⟩
section
variable {cf:Cfg} {N:Nat} {s:Srv}
theorem cO.upd (I:cO cf N s){k:Nat}{c c':bT}(hc:s.ag[k]? = some c){x':Core}{E:List Ev}(hx:Ej s.core x')(hc0:s.core.counter<=x'.counter)(hc1:x'.counter<=aW)
  (hpn:x'.place=none->x'.found=false/\(x'.aZ=none∨x'.aZ=some (0,0))) (hps:∀ p,x'.place=some p->∃ B,CC cf x' p B/\zo ⟨x',s.ag.set k c',s.events++E⟩ p B)
  (hL:∀ i:Nat,i≠k->CE (lk s.core) (lk x') i) (hck:eI N (lk x') k c') (hE:∀ e∈E,kR e=true):cO cf N ⟨x',s.ag.set k c',s.events++E⟩:=by
 have hk:k<s.ag.length:=(List.getElem?_eq_some_iff.1 hc).1
 refine⟨by simpa using I.len,hx.bQ.trans I.bQ,hx.ah.trans I.ah,hx.bytes.trans I.bytes,hx.log.trans I.log,Int.le_trans I.c0 hc0,hc1,hx.hub.trans I.hub,hx.ct.trans I.ct,hx.now.trans I.now,hpn,hps,λi ci hi=>?_,λe he=>?_⟩
 ·by_cases hik:i=k
  ·subst hik
   simp only[List.getElem?_set,if_true,hk] at hi
   cases hi
   exact hck
  simp only[List.getElem?_set,if_neg (Ne.symm hik)] at hi
  exact(I.ag i ci hi).adv (hL i hik)
 rcases List.mem_append.1 he with he|he
 ·exact I.evs e he
 exact hE e he
theorem zo.FZ {p p':Place}{B:Int}(h:zo s p B){k:Nat}{c c':bT}(hc:s.ag[k]? = some c){x':Core}{E:List Ev}(hcol:p'.col=p.col)(hcn:s.core.counter<=x'.counter)(h1:¬ (c.state=2/\c.task.ax=4))(h2:¬ (c'.state=2/\c'.task.ax=4)):zo ⟨x',s.ag.set k c',E⟩ p' B:=by
 have hk:k<s.ag.length:=(List.getElem?_eq_some_iff.1 hc).1
 refine⟨λi ci hi g1 g2=>?_,λhn=>?_⟩
 ·by_cases hik:i=k
  ·subst hik
   simp only[List.getElem?_set,if_true,hk] at hi
   cases hi
   exact absurd ⟨g1,g2⟩ h2
  simp only[List.getElem?_set,if_neg (Ne.symm hik)] at hi
  rw[hcol]
  have:=h.busy i ci hi g1 g2
  exact⟨Int.le_trans this.1 hcn,this.2⟩
 rw[hcol]
 refine h.calm λi ci hi=>?_
 by_cases hik:i=k
 ·subst hik
  rw[hc] at hi
  cases hi
  exact h1
 exact hn i ci (by simp only[List.getElem?_set,if_neg (Ne.symm hik)];exact hi)
theorem gj (I:cO cf N s){k:Nat}{c c':bT}(hc:s.ag[k]? = some c){E:List Ev}(h1:¬ (c.state=2/\c.task.ax=4))(h2:¬ (c'.state=2/\c'.task.ax=4))(hck:eI N (lk s.core) k c')(hE:∀ e∈E,kR e=true):cO cf N ⟨s.core,s.ag.set k c',s.events++E⟩:=by
 refine I.upd hc (Ej.refl _) (Int.le_refl _) I.c1 I.pn (λp hp=>?_) (λi _=>⟨λe=>?_,λl e=>⟨l,e,Adv.refl l i⟩⟩) hck hE
 ·obtain⟨B,P,D⟩:=I.ps p hp
  exact⟨B,P,D.FZ hc rfl (Int.le_refl _) h1 h2⟩
 intro l hl
 rw[e] at hl
 cases hl
theorem pb (I:cO cf N s){k:Nat}(hk4:k<4){c c':bT}(hc:s.ag[k]? = some c){E:List Ev}{p:Place}(hp:s.core.place=some p){l':Lk}(hl:LK l')(ha:∀ i:Int,i≠k->Adv p.lock l' i)(h1:¬ (c.state=2/\c.task.ax=4))(h2:¬ (c'.state=2/\c'.task.ax=4))(hck:eI N (some l') k c')(hE:∀ e∈E,kR e=true) :
  cO cf N ⟨{ s.core with place:=some { p with lock:=l' } },s.ag.set k c',s.events++E⟩:=by
 have hlk:lk s.core=some p.lock:=by simp[lk,hp]
 refine I.upd hc ⟨rfl,rfl,rfl,rfl,rfl,rfl,rfl⟩ (Int.le_refl _) I.c1 (λe=>by cases e) (λq hq=>?_) (λi hi=>⟨λe=>(by rw[hlk] at e;cases e),λl e=>?_⟩) hck hE
 ·cases hq
  obtain⟨B,P,D⟩:=I.ps p hp
  exact⟨B,⟨P.found,P.alive,P.drawn,hl,λi hi=>(ha i (by omega)).o (P.rng i hi),P.lat,P.bud,P.b0,P.b1⟩,D.FZ hc rfl (Int.le_refl _) h1 h2⟩
 rw[hlk] at e
 cases e
 exact⟨l',rfl,ha i (by omega)⟩
end
section
variable {s:Srv} {k:Nat} {c:bT}
theorem jA (h:s.can k=false):s.pick k=s:=by
 unfold Srv.pick
 split
 ·rfl
 simp[h]
theorem nG (hc:s.ag[k]? = some c)(h1:c.state=1){q:Req}{r:List Req}(ht:c.todo=q::r)(hq:q.kind=1) :
  s.pick k=⟨s.core,s.ag.set k { c with todo:=r,seq:=c.seq+1,dh:=q,bound:=true,state:=3,cL:={ kind:=1 } },s.events++[⟨1,k,c.seq+1,{ kind:=0 }⟩,⟨2,k,c.seq+1,{ kind:=1 }⟩]⟩:=by
 have hcan:s.can k=true:=by simp[Srv.can,hc,h1,ht]
 unfold Srv.pick
 simp[hc,hcan,h1,ht,hq]
theorem jJ (hc:s.ag[k]? = some c)(h1:c.state=1){q:Req}{r:List Req}(ht:c.todo=q::r)(hq:q.kind≠1) :
  s.pick k=⟨s.core,s.ag.set k { c with todo:=r,seq:=c.seq+1,dh:=q,task:=Task.start s.core q,state:=2 },s.events++[⟨1,k,c.seq+1,{ kind:=0 }⟩]⟩:=by
 have hcan:s.can k=true:=by simp[Srv.can,hc,h1,ht]
 unfold Srv.pick
 simp[hc,hcan,h1,ht,hq]
theorem dq (hc:s.ag[k]? = some c)(h2:c.state=2)(hcan:c.task.can s.core k=true){x':Core}{t':Task}(hst:c.task.step s.core k=(x',t'))(h8:t'.ax≠8) :
  s.pick k=⟨x',s.ag.set k { c with task:=t' },s.events++if t'.aX&&!c.task.aX then [(⟨2,k,c.seq,t'.aM⟩:Ev)] else []⟩:=by
 have hc':s.can k=true:=by simp[Srv.can,hc,h2,hcan]
 unfold Srv.pick
 simp[hc,hc',h2,hst,h8]
theorem gJ (hc:s.ag[k]? = some c)(h2:c.state=2)(hcan:c.task.can s.core k=true){x':Core}{t':Task}(hst:c.task.step s.core k=(x',t'))(h8:t'.ax=8) :
  s.pick k=⟨x',s.ag.set k { c with task:=t',state:=3,cL:=t'.aM },s.events++if t'.aX&&!c.task.aX then [(⟨2,k,c.seq,t'.aM⟩:Ev)] else []⟩:=by
 have hc':s.can k=true:=by simp[Srv.can,hc,h2,hcan]
 unfold Srv.pick
 simp[hc,hc',h2,hst,h8]
theorem rM (hc:s.ag[k]? = some c)(h3:c.state=3) :
  s.pick k=⟨s.core,s.ag.set k { c with state:=1,out:=c.out++[c.cL] },s.events++[⟨3,k,c.seq,c.cL⟩]⟩:=by
 have hc':s.can k=true:=by simp[Srv.can,hc,h3]
 unfold Srv.pick
 simp[hc,hc',h3]
end
theorem nU {k:Nat}{sq:Int}{p:aU}{b:Bool} : ∀ e∈(if b then [(⟨2,k,sq,p⟩:Ev)] else []),kR e=true:=by
 intro e he
 cases b
 ·simp at he
 simp at he
 subst he
 rfl
theorem iS {q:Req}(h:Rq q):q.kind≠1/\(q.kind=2∨q.kind=6∨q.kind=7∨q.kind=8)/\q.bj=0/\(q.kind=7->Gr q.ops)/\(q.kind=8->0<=q.token)/\q.kind≠9/\q.kind≠10:=by
 cases h with
 | create=>exact⟨by decide,.inl rfl,rfl,(λh=>by cases h),(λh=>by cases h),by decide,by decide⟩
 | put n=>exact⟨by simp[jE],.inr (.inr (.inl rfl)),rfl,λ_=>.inl ⟨eN n,by
   unfold eN
   rcases h:kq[n % 5]? with _|t
   ·decide +kernel
   have:∀ t∈kq,t.size<=80:=by decide +kernel
   exact this t (List.mem_of_getElem? h),rfl⟩,(λh=>by cases h),by simp[jE],by simp[jE]⟩
 | del=>exact⟨by decide,.inr (.inr (.inl rfl)),rfl,λ_=>.inr rfl,(λh=>by cases h),by decide,by decide⟩
 | delta t m h0 h1 h2 h3=>exact⟨by simp[gA],.inr (.inr (.inr rfl)),rfl,(λh=>by cases h),λ_=>h0,by simp[gA],by simp[gA]⟩
 | get=>exact⟨by decide,.inr (.inl rfl),rfl,(λh=>by cases h),(λh=>by cases h),by decide,by decide⟩
theorem lH (k e:Int)(hk:0<=k/\k<=11)(he:1<=e/\e<=15):PR { kind:=k,err:=e }:=by
 refine⟨?_,λ_ h=>by simp at h;omega,by simp⟩
 simp[bH,aW]
 have:(⟨#[]⟩:BS).size=0:=rfl
 omega
theorem AD (k e i:Int)(hk:0<=k/\k<=11)(he:1<=e/\e<=15)(hi:0<=i/\i<=247):PR { kind:=k,err:=e,index:=i }:=by
 refine⟨?_,λ_ h=>by simp at h;omega,by simp⟩
 simp[bH,aW]
 have:(⟨#[]⟩:BS).size=0:=rfl
 omega
theorem AA (k t:Int)(hk:0<=k/\k<=11)(h8:k≠8)(ht:0<=t/\t<=aW):PR { kind:=k,token:=t }:=by
 refine⟨?_,λh _=>absurd h h8,by simp⟩
 simp only[aW] at ht
 simp[bH,aW]
 have:(⟨#[]⟩:BS).size=0:=rfl
 omega
theorem EP (v:Int)(t:BS)(hv:0<=v/\v<=aW)(ht:t.size<=80):PR { kind:=6,version:=v,au:=t }:=by
 refine⟨?_,λh _=>(by cases h),by simp⟩
 simp only[aW] at hv
 simp[bH,aW]
 omega
theorem AB (tk v:Int)(g:Bool)(t:BS)(hk:0<=tk/\tk<=aW)(hv:0<=v/\v<=aW)(ht:t.size<=80):PR { kind:=8,token:=tk,items:=two v g t }:=by
 have hu:ua.size=1/\ub.size=1:=by decide +kernel
 refine⟨?_,λ_ _=>By _ _ _,by simp[two]⟩
 simp only[aW] at hv hk
 simp[bH,aW,two,pZ,hu]
 have:(⟨#[]⟩:BS).size=0:=rfl
 omega
theorem C9 (tk:Int)(hk:0<=tk/\tk<=aW):PR { kind:=8,token:=tk,items:=[] }:=by
 refine⟨?_,λ_ _=>rfl,by simp⟩
 simp only[aW] at hk
 simp[bH,aW]
 have:(⟨#[]⟩:BS).size=0:=rfl
 omega
def Pk (r:Int × Int × Int):Prop:=r.1<=247/\0<=r.1/\0<=r.2.2/\r.2.2<=15
theorem p6 {p:Prop}[Decidable p]{a b:Int × Int × Int}(ha:Pk a)(hb:Pk b):Pk (if p then a else b):=by split<;>assumption
theorem Da (i:Nat)(e:Int)(hi:i<=8)(he:0<=e/\e<=15):Pk (i,0,e):=by simp only[Pk];omega
theorem pk (c:Col)(room:Int)(ops:List Op):∀ (l:List Op) (i:Nat) (m g:Int),i+l.length<=8->Pk (chk c room ops i m g l)
 | [],i,m,g,_=>by simp[chk,Pk]
 | o::l,i,m,g,h=>by
  simp only[List.length_cons] at h
  rw[chk]
  simp only[]
  exact p6 (Da _ _ (by omega) (by omega)) (p6 (Da _ _ (by omega) (by omega)) (p6 (Da _ _ (by omega) (by omega)) (p6 (Da _ _ (by omega) (by omega)) (pk c room ops l (i+1) _ _ (by omega)))))
section
variable {cf:Cfg} {N:Nat} {s:Srv} {k:Nat} {c:bT}
theorem DG (I:cO cf N s)(hc:s.ag[k]? = some c)(h1:c.state=1)(hf:qL (lk s.core) k):cO cf N (s.pick k):=by
 have C:eI N (lk s.core) k c:=I.ag k c hc
 have hn2:¬ (c.state=2/\c.task.ax=4):=λe=>by rw[h1] at e;cases e.1
 have hn:=C.num
 have ho:=C.outs
 rw[if_pos h1] at ho
 cases ht:c.todo with
 | nil =>
  rw[jA (by simp[Srv.can,hc,h1,ht])]
  exact I
 | cons q r =>
  rw[ht] at hn
  simp only[List.length_cons] at hn
  rcases C.todo with⟨hb,r',e,hr⟩|⟨hb,hr⟩
  ·rw[ht] at e
   injection e with e1 e2
   subst e1
   subst e2
   rw[nG hc h1 ht rfl]
   refine gj I hc hn2 (λe=>by cases e.1) ⟨.inr ⟨rfl,hr⟩,by simp only;omega,by simp only;rw[if_neg (by decide)];omega,C.out,.inr (.inr ⟨rfl,rfl,hf,?_,.inr rfl⟩)⟩ ?_
   ·exact show PR { kind:=1 } from ⟨by decide +kernel,λh=>(by cases h),by decide⟩
   intro e he
   simp at he
   rcases he with rfl|rfl<;>rfl
  have hq:=hr q (by rw[ht];simp)
  have hk:=iS hq
  rw[jJ hc h1 ht hk.1]
  refine gj I hc hn2 (λe=>by have:=e.2;simp[Task.start] at this) ⟨.inr ⟨hb,λx hx=>hr x (by rw[ht];simp[hx])⟩,by simp only;omega,by simp only;rw[if_neg (by decide)];omega,C.out,.inr (.inl ⟨rfl,hb,rfl,?_⟩)⟩ ?_
  ·refine⟨hq,.inl rfl,?_,λ_=>hf,λ_=>rfl,λh=>?_,λh=>?_,λh=>?_,λh=>?_,λh=>?_,λh=>?_,λ_=>rfl⟩
   ·show s.core.now+q.bj=0
    rw[I.now,hk.2.2.1]
    rfl
   all_goals (simp[Task.start] at h)
  intro e he
  simp at he
  subst he
  rfl
theorem Fg (I:cO cf N s)(hc:s.ag[k]? = some c)(h3:c.state=3)(hf:qL (lk s.core) k)(hp:PR c.cL):cO cf N (s.pick k):=by
 have C:eI N (lk s.core) k c:=I.ag k c hc
 have ho:=C.outs
 rw[if_neg (by rw[h3];decide)] at ho
 rw[rM hc h3]
 refine gj I hc (λe=>by rw[h3] at e;cases e.1) (λe=>by cases e.1) ⟨C.todo,C.num,by simp;omega,λa ha=>?_,.inl ⟨rfl,hf⟩⟩ ?_
 ·rcases List.mem_append.1 ha with ha|ha
  ·exact C.out a ha
  simp at ha
  rw[ha]
  exact hp.ok
 intro e he
 simp at he
 subst he
 unfold kR
 by_cases h8:c.cL.kind=8
 ·by_cases h0:c.cL.err=0
  ·simp[hp.qi h8 h0]
  simp[h0]
 simp[h8]
theorem sW {L:Option Lk}{t':Task}{a:aU}{j:Int}(C:eI N (lk s.core) j c)(h2:c.state=2)(hf:qL L j)(ha:PR a)(hq:t'.q=c.task.q):eI N L j { c with task:=t',state:=3,cL:=a }:=by
 have ho:=C.outs
 rw[if_neg (by rw[h2];decide)] at ho
 obtain⟨hb,ht,T⟩:c.bound=true/\c.dh=c.task.q/\jG (lk s.core) j c.task:=by
  rcases C.st with⟨e,_⟩|⟨_,h1,h3,h4⟩|⟨e,_⟩
  ·omega
  ·exact⟨h1,h3,h4⟩
  omega
 exact⟨C.todo,C.num,by simp only;rw[if_neg (by decide)];exact ho,C.out,.inr (.inr ⟨rfl,hb,hf,ha,.inl (by rw[ht];exact T.rq)⟩)⟩
theorem za {L:Option Lk}{t':Task}{j:Int}(C:eI N (lk s.core) j c)(h2:c.state=2)(hT:jG L j t')(hq:t'.q=c.task.q):eI N L j { c with task:=t' }:=by
 have ho:=C.outs
 rw[if_neg (by rw[h2];decide)] at ho
 obtain⟨hb,ht,T⟩:c.bound=true/\c.dh=c.task.q/\jG (lk s.core) j c.task:=by
  rcases C.st with⟨e,_⟩|⟨_,h1,h3,h4⟩|⟨e,_⟩
  ·omega
  ·exact⟨h1,h3,h4⟩
  omega
 exact⟨C.todo,C.num,by simp only;rw[if_neg (by rw[h2];decide)];exact ho,C.out,.inr (.inl ⟨h2,hb,by rw[hq];exact ht,hT⟩)⟩
theorem yH (I:cO cf N s)(O:cf.Ok)(hc:s.ag[k]? = some c)(h2:c.state=2)(T:jG (lk s.core) k c.task)(h1:c.task.ax=1)(hk:c.task.q.kind=2):cO cf N (s.pick k):=by
 have C:eI N (lk s.core) k c:=I.ag k c hc
 have hcan:c.task.can s.core k=true:=by simp[Task.can,h1]
 have hst:c.task.step s.core k=(s.core.create.1,c.task.settle s.core.create.2 8):=by
  unfold Task.step
  rw[if_pos h1,if_pos hk]
 rw[gJ hc h2 hcan hst rfl]
 have hf:=T.free (.inl h1)
 have hn:¬ (c.state=2/\c.task.ax=4):=λe=>by rw[h1] at e;cases e.2
 show cO cf N ⟨s.core.create.1,s.ag.set k { c with task:=c.task.settle s.core.create.2 8,state:=3,cL:=s.core.create.2 },_⟩
 unfold Core.create
 cases hfd:s.core.found
 ·have hp:s.core.place=none:=by
   cases h:s.core.place with
   | none=>rfl
   | some p =>
    obtain⟨B,P,_⟩:=I.ps p h
    rw[P.found] at hfd
    cases hfd
  have hL:lk s.core=none:=by simp[lk,hp]
  obtain⟨_,hbud⟩:=I.pn hp
  have hb:s.core.aZ.getD (0,0)=(0,0):=by rcases hbud with h|h<;>rw[h]<;>rfl
  have hcol:¬ ((0:Int) >= s.core.bQ):=by rw[I.bQ];have:=O.c0;omega
  simp only[Bool.false_eq_true,if_false,hb,hcol]
  by_cases hm:s.core.counter=aW
  ·rw[if_pos hm]
   refine I.upd hc ⟨rfl,rfl,rfl,rfl,rfl,rfl,rfl⟩ (Int.le_refl _) I.c1 (λ_=>⟨rfl,.inr rfl⟩) (λp h=>by simp only[hp] at h;cases h) (λi _=>⟨λe l hl=>?_,λl e=>?_⟩) (sW C h2 ?_ (lH 2 9 (by decide) (by decide)) rfl) nU
   ·simp[lk,hp] at hl
   ·rw[hL] at e;cases e
   intro l hl
   simp[lk,hp] at hl
  rw[if_neg hm]
  have hc1:=I.c1
  have hc0:=I.c0
  have hs0:=O.s0
  have hL':lk ({ s.core with counter:=s.core.counter+1,aZ:=some (0+1,0),found:=true,place:=some { col:={ aj:=max s.core.aj 1,aD:=max s.core.ah 1,az:=s.core.counter+1,aG:=s.core.counter+1 },drawn:=s.core.counter+1 } } : Core)=some {}:=rfl
  refine I.upd hc ⟨rfl,rfl,rfl,rfl,rfl,rfl,rfl⟩ (by simp only;omega) (by simp only;omega) (λe=>by cases e) (λp h=>?_) (λi _=>⟨λe l hl=>?_,λl e=>?_⟩) (sW C h2 ?_ (AA 2 _ (by decide) (by decide) (by omega)) rfl) nU
  ·cases h
   refine⟨0,⟨rfl,rfl,by simp only;omega,E0,λi _=>pR i,by simp only;omega,rfl,Int.le_refl _,by have:=O.b0;omega⟩,⟨λi ci hi g1 g2=>?_,λ_=>⟨⟨by simp only;omega,by simp only;omega,.inl rfl,by simp,.inl ⟨rfl,rfl⟩,by simp only[List.length_nil];omega,rfl⟩,rfl,?_⟩⟩⟩
   ·exfalso
    by_cases hik:i=k
    ·subst hik
     have hlt:i<s.ag.length:=(List.getElem?_eq_some_iff.1 hc).1
     simp only[List.getElem?_set,if_true,hlt] at hi
     cases hi
     cases g1
    simp only[List.getElem?_set,if_neg (Ne.symm hik)] at hi
    have Ci:=I.ag i ci hi
    rcases Ci.st with⟨e,_⟩|⟨_,_,_,Ti⟩|⟨e,_⟩
    ·omega
    ·obtain⟨_,_,l,hl⟩:=Ti.pl (by omega)
     simp[hp] at hl
    omega
   have h1:=I.log
   have h2:=O.l1
   have h3:=O.l0
   simp only
   omega
  ·rw[hL'] at hl
   cases hl
   exact pR i
  ·rw[hL] at e;cases e
  intro l hl
  rw[hL'] at hl
  cases hl
  exact pR k
 simp only[if_true]
 exact gj I hc hn (λe=>by cases e.1) (sW C h2 hf (lH 2 5 (by decide) (by decide)) rfl) nU
theorem DJ (I:cO cf N s)(hc:s.ag[k]? = some c)(h2:c.state=2)(T:jG (lk s.core) k c.task)(h1:c.task.ax=1)(hk:c.task.q.kind≠2):cO cf N (s.pick k):=by
 have C:eI N (lk s.core) k c:=I.ag k c hc
 have hcan:c.task.can s.core k=true:=by simp[Task.can,h1]
 have hn:¬ (c.state=2/\c.task.ax=4):=λe=>by rw[h1] at e;cases e.2
 have hf:=T.free (.inl h1)
 have hq:=iS T.rq
 cases hfd:s.core.found
 ·have hfi:s.core.find = -1:=by simp[Core.find,hfd]
  have hst:c.task.step s.core k=(s.core,{ c.task.settle { kind:=c.task.q.kind,err:=4 } 8 with id:=-1 }):=by
   unfold Task.step
   rw[if_pos h1,if_neg hk,if_neg hq.2.2.2.2.2.2,if_pos (by rw[hfi];decide),hfi]
  rw[gJ hc h2 hcan hst rfl]
  exact gj I hc hn (λe=>by cases e.1) (sW C h2 hf (lH _ 4 (by omega) (by decide)) rfl) nU
 have hfi:s.core.find=0:=by simp[Core.find,hfd]
 have hst:c.task.step s.core k=(s.core,{ c.task with id:=0,ax:=2 }):=by
  unfold Task.step
  rw[if_pos h1,if_neg hk,if_neg hq.2.2.2.2.2.2,if_neg (by rw[hfi];decide),hfi]
 rw[dq hc h2 hcan hst (by simp)]
 have hpl:∃ l,lk s.core=some l:=by
  cases h:s.core.place with
  | none =>
   have:=(I.pn h).1
   rw[hfd] at this
   cases this
  | some p=>exact⟨p.lock,by simp[lk,h]⟩
 refine gj I hc hn (λe=>by cases e.2) (za C h2 ?_ rfl) nU
 refine⟨T.rq,.inr (.inl rfl),T.dl,λ_=>hf,λ_=>T.un (by rw[h1];decide),λh=>?_,λ_=>⟨rfl,hk,hpl⟩,λh=>?_,λh=>?_,λh=>?_,λh=>?_,λ_=>T.nx (by omega)⟩
 all_goals (simp at h)
theorem DH (I:cO cf N s)(hk4:k<4)(hc:s.ag[k]? = some c)(h2:c.state=2)(T:jG (lk s.core) k c.task)(h1:c.task.ax=2):cO cf N (s.pick k):=by
 have C:eI N (lk s.core) k c:=I.ag k c hc
 have hcan:c.task.can s.core k=true:=by simp[Task.can,h1]
 have hn:¬ (c.state=2/\c.task.ax=4):=λe=>by rw[h1] at e;cases e.2
 obtain⟨hiq,hk2,l,hl⟩:=T.pl (by omega)
 obtain⟨p,hp,rfl⟩:∃ p,s.core.place=some p/\p.lock=l:=by simpa[lk] using hl
 obtain⟨B,P,D⟩:=I.ps p hp
 have hf:=T.free (.inr h1) _ hl
 obtain⟨k1,k2,k3⟩:=Fp P.lk hf (writes c.task.q.kind)
 have hst:c.task.step s.core k=({ s.core with place:=some { p with lock:=p.lock.ask k (writes c.task.q.kind) } },{ c.task with ax:=3 }):=by
  unfold Task.step
  rw[if_neg (by omega),if_pos h1]
  simp[Core.lock,hp,hiq]
 rw[dq hc h2 hcan hst (by simp)]
 refine pb I hk4 hc hp k1 k2 hn (λe=>by cases e.2) (za C h2 ?_ rfl) nU
 refine⟨T.rq,.inr (.inr (.inl rfl)),T.dl,λh=>?_,λ_=>T.un (by omega),λh=>?_,λ_=>⟨hiq,hk2,_,rfl⟩,λ_ l hl=>?_,λh=>?_,λh=>?_,λh=>?_,λ_=>T.nx (by omega)⟩
 case refine_3=>cases hl;exact k3
 all_goals (simp at h)
theorem DI (I:cO cf N s)(hk4:k<4)(hc:s.ag[k]? = some c)(h2:c.state=2)(T:jG (lk s.core) k c.task)(h1:c.task.ax=6):cO cf N (s.pick k):=by
 have C:eI N (lk s.core) k c:=I.ag k c hc
 have hcan:c.task.can s.core k=true:=by simp[Task.can,h1]
 have hn:¬ (c.state=2/\c.task.ax=4):=λe=>by rw[h1] at e;cases e.2
 obtain⟨hiq,hk2,l,hl⟩:=T.pl (by omega)
 obtain⟨p,hp,rfl⟩:∃ p,s.core.place=some p/\p.lock=l:=by simpa[lk] using hl
 obtain⟨B,P,D⟩:=I.ps p hp
 obtain⟨hpo,hpr⟩:=T.po (by omega)
 obtain⟨k1,k2,k3⟩:=Bj P.lk (T.hold (by omega) _ hl)
 have hst:c.task.step s.core k=({ s.core with place:=some { p with lock:=p.lock.leave k } },{ c.task with ax:=8 }):=by
  unfold Task.step
  rw[if_neg (by omega),if_neg (by omega),if_neg (by omega),if_neg (by omega),if_neg (by omega),if_pos h1]
  simp only[hpo,Bool.true_and,if_true]
  have hw:fu s.core.hub c.task.id=s.core.hub:=by rw[I.hub];rfl
  congr 1
  unfold Core.unlock
  simp only[hp,hiq,beq_self_eq_true,if_true]
  split
  ·rw[hiq] at hw
   simp only[hw]
  rfl
 rw[gJ hc h2 hcan hst rfl]
 refine pb I hk4 hc hp k1 k2 hn (λe=>by cases e.1) (sW C h2 ?_ hpr rfl) nU
 intro l hl
 cases hl
 exact k3
theorem BA (I:cO cf N s)(hc:s.ag[k]? = some c)(h2:c.state=2)(T:jG (lk s.core) k c.task)(h1:c.task.ax=5):cO cf N (s.pick k):=by
 have C:eI N (lk s.core) k c:=I.ag k c hc
 have hcan:c.task.can s.core k=true:=by simp[Task.can,h1]
 have hn:¬ (c.state=2/\c.task.ax=4):=λe=>by rw[h1] at e;cases e.2
 obtain⟨hpo,hpr⟩:=T.po (by omega)
 have hnx:=T.rd h1
 have hst:c.task.step s.core k=(s.core,{ c.task with next:=3,ax:=6 }):=by
  unfold Task.step
  rw[if_neg (by omega),if_neg (by omega),if_neg (by omega),if_neg (by omega),if_pos h1,hnx]
  have:=hpr.few
  have h3:(0:Int)+3 >= (c.task.aM.items.length:Int):=by omega
  simp only[h3,if_true]
  rfl
 rw[dq hc h2 hcan hst (by simp)]
 refine gj I hc hn (λe=>by cases e.2) (za C h2 ?_ rfl) nU
 refine⟨T.rq,.inr (.inr (.inr (.inr (.inr rfl)))),T.dl,λh=>?_,λh=>?_,λ_=>⟨hpo,hpr⟩,λ_=>T.pl (by omega),λh=>?_,λ_=>T.hold (by omega),λh=>?_,λh=>?_,λh=>?_⟩
 all_goals (simp at h)
end
end M
