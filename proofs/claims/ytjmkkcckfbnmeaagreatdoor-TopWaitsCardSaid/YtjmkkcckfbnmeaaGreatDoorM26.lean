/- Texts CoreA. -/
import Derived.Test.YtjmkkcckfbnmeaaGreatDoorM25
import Derived.BigQuiet
import Derived.IntWalk
set_option maxRecDepth 100000
set_option maxHeartbeats 8000000
set_option linter.all false
open Go.Lib (hid)
namespace Go.Proofs.YtjmkkcckfbnmeaaGreatDoor.Cr
open Go.RowKit
theorem key_facts:key.toList.isEmpty=false∧key.size≤1000:=by decide +kernel
theorem low_tn:Id.lowS tn=true:=by decide +kernel
theorem low_home:Id.lowS M.home=true:=by decide +kernel
theorem at_yes (w:World)(B g:Nat)(k:Cf)(x:M.Core)(vp:Value)(rg bg hg cg:Nat)(p:M.Place)(h:CoreP w B g k x vp rg bg hg cg)(hp:x.place=some p) :
  Calls Tryz.prog 98 #[.pointer (some ⟨g,0,none⟩),.int .i64 0] w fun e w'=>(∃ q,e = .returned (.pointer (some ⟨q,0,none⟩))∧B≤q∧Own w B 182 1 vp 1 [.pointer (some ⟨q,0,none⟩)]∧PlaceAt w B q p)∧w=w':=by
 have hpl:=h.pls
 rw[hp] at hpl
 obtain⟨q,hq,ho,hpa⟩:=hpl
 obtain⟨gv,cv,hgv,rfl,hr⟩:=ho.pos (by omega)
 have c9:=h.cell.cell 9
 have y0:w.cell? ⟨gv,0,none⟩=some (.pointer (some ⟨q,0,none⟩)):=hr.cell rfl
 simp at c9
 have HO:=hid ho
 have HP:=hid hpa
 clear h hr ho hpa
 go_enter Tryz.func98,Tryz.ntmps98
 go_wp2_with fail
 go_ret
 exact⟨⟨q,rfl,hq,HO.out,HP.out⟩,rfl⟩
theorem find_any (w:World)(B g:Nat)(k:Cf)(x:M.Core)(h:CoreAt w B g k x) :
  Calls Tryz.prog 109 #[.pointer (some ⟨g,0,none⟩),.string tn,.string M.home] w fun e w'=>e = .returned (.int .i64 x.find)∧Fr [] w w':=by
 obtain⟨vp,rg,bg,hg,cg,h⟩:=h
 obtain⟨hk1,hk2⟩:=key_facts
 have c11:=h.cell.cell 10
 simp at c11
 have hreg:=h.reg
 have hkey:=Id.key_low tn M.home w low_tn low_home
 have hfi:x.find=if x.found then 0 else -1:=rfl
 rw[hfi]
 have hcall:Calls Tryz.prog 151 #[.pointer (some ⟨rg,0,none⟩),.string key] w fun e w'=>e = .returned (.int .i64 (if x.found then 0 else -1))∧Fr [] w w':=by
  cases hf:x.found with
  | true =>
   rw[hf] at hreg
   exact Rk.find_yes w B rg k.shards key 0 hreg hk2
  | false =>
   rw[hf] at hreg
   exact Rk.find_no w B rg k.shards [] key hreg hk2 rfl
 have HC:=hid hcall
 have HK:=hid (show Calls Tryz.prog 150 #[.string tn,.string M.home] w fun e w'=>e = .returned (.string key)∧w=w' from hkey)
 clear hreg hcall hkey h hfi
 generalize (if x.found then (0:Int) else -1)=r at *
 generalize key=K at *
 generalize tn=T,M.home=H at *
 go_enter Tryz.func109,Tryz.ntmps109
 go_wp2_with fail
 refine HK.out.mono ?_
 rintro e w1 ⟨rfl,rfl⟩
 go_wp2_with fail
 refine HC.out.mono ?_
 rintro e w1 ⟨rfl,f1⟩
 go_wp2_with fail
 go_ret
 exact⟨rfl,f1⟩
theorem alive_any (w:World)(B g:Nat)(k:Cf)(x:M.Core)(p:M.Place)(h:CoreAt w B g k x)(hp:x.place=some p) :
  Calls Tryz.prog 111 #[.pointer (some ⟨g,0,none⟩),.int .i64 0] w fun e w'=>e = .returned (.bool p.alive)∧w=w':=by
 obtain⟨vp,rg,bg,hg,cg,h⟩:=h
 go_enter Tryz.func111,Tryz.ntmps111
 go_wp2_with fail
 refine(at_yes w B g k x vp rg bg hg cg p h hp).mono ?_
 rintro e w1 ⟨⟨q,rfl,_,_,⟨_,_,_,_,hc,_,_⟩⟩,rfl⟩
 have c4:=hc.cell 4
 simp at c4
 clear h hc
 go_wp2_with fail
 go_ret
 exact⟨rfl,rfl⟩
theorem held_any (w:World)(B g:Nat)(k:Cf)(x:M.Core)(p:M.Place)(who:Int)(h:CoreAt w B g k x)(hp:x.place=some p) :
  Calls Tryz.prog 60 #[.pointer (some ⟨g,0,none⟩),.int .i64 0,.int .i64 who] w fun e w'=>e = .returned (.int .i64 (p.lock.state who))∧Fr [] w w':=by
 obtain⟨vp,rg,bg,hg,cg,h⟩:=h
 go_enter Tryz.func60,Tryz.ntmps60
 go_wp2_with fail
 refine(at_yes w B g k x vp rg bg hg cg p h hp).mono ?_
 rintro e w1 ⟨⟨q,rfl,_,_,⟨_,lg,_,_,hc,_,hl⟩⟩,rfl⟩
 have c3:=hc.cell 3
 simp at c3
 clear h hc
 have HL:=hid (Lo.state_any w B lg p.lock who hl)
 clear hl
 go_wp2_with fail
 refine HL.out.mono ?_
 rintro e w2 ⟨rfl,f2⟩
 go_wp2_with fail
 go_ret
 exact⟨rfl,f2⟩
theorem CoreP.atLock {w w':World}{B g:Nat}{k:Cf}{x:M.Core}{vp:Value}{rg bg hg cg q cl lg:Nat}{p:M.Place}{l':M.Lk}(h:CoreP w B g k x vp rg bg hg cg)(hq:B≤q)(ho:Own w B 182 1 vp 1 [.pointer (some ⟨q,0,none⟩)])
  (h1:B≤cl) (h2:B≤lg) (hc:Holds w q 187 #[.string tn,.string M.home,.pointer (some ⟨cl,0,none⟩),.pointer (some ⟨lg,0,none⟩),.bool p.alive,.int .i64 p.drawn]) (hcol:Co.ColAt w B cl p.col)
  (hf:FrX B Lo.Ts [] w w') (hl:Lo.LockAt w' B lg l'):CoreP w' B g k { x with place:=some { p with lock:=l' } } vp rg bg hg cg:=by
 refine h.atPls (hf.mono (by simp) (fun _ h=>h)) ?_
 exact⟨q,hq,ho.frx0 hf (by decide),⟨cl,lg,h1,h2,hc.frx hf (by decide) (by simp),hcol.frx hf (by decide),hl⟩⟩
theorem lock_any (w:World)(B g:Nat)(k:Cf)(x:M.Core)(p:M.Place)(who:Int)(wt:Bool)(h:CoreAt w B g k x)(hp:x.place=some p)(hB:B≤w.heap.size)(hn:p.lock.readers.length+p.lock.queue.length≤99) :
  Calls Tryz.prog 68 #[.pointer (some ⟨g,0,none⟩),.int .i64 0,.int .i64 who,.bool wt] w fun e w'=>(∃ b,e = .returned (.bool b))∧CoreAt w' B g k (x.lock 0 who wt)∧FrX B Ts [] w w':=by
 obtain⟨vp,rg,bg,hg,cg,h⟩:=h
 have hx:x.lock 0 who wt={ x with place:=some { p with lock:=p.lock.ask who wt } }:=by simp[M.Core.lock,hp]
 rw[hx]
 clear hx
 go_enter Tryz.func68,Tryz.ntmps68
 go_wp2_with fail
 refine(at_yes w B g k x vp rg bg hg cg p h hp).mono ?_
 rintro e w1 ⟨⟨q,rfl,hq,ho,⟨cl,lg,h1,h2,hc,hcol,hl⟩⟩,rfl⟩
 have c3:=hc.cell 3
 simp at c3
 have HL:=hid (Lo.ask_any w B lg p.lock who wt hl hB h2 hn)
 have HX:=hid (fun w' l'=>CoreP.atLock (w':=w') (l':=l') h hq ho h1 h2 hc hcol)
 clear hl h hc ho hcol hp
 go_wp2_with fail
 refine HL.out.mono ?_
 rintro e w2 ⟨⟨b,rfl⟩,hl2,x2⟩
 have HP:=hid (HX.out _ _ x2 hl2)
 go_wp2_with fail
 go_ret
 exact⟨⟨_,rfl⟩,⟨_,_,_,_,_,HP.out⟩,x2.mono (by decide) (fun _ h=>h)⟩
theorem unlock_any (w:World)(B g:Nat)(k:Cf)(x:M.Core)(p:M.Place)(who:Int)(wake:Bool)(h:CoreAt w B g k x)(hp:x.place=some p)(hB:B≤w.heap.size)(hn:p.lock.readers.length+p.lock.queue.length≤100)(hst:p.lock.state who=3∨p.lock.state who=2)(hh:x.hub.length≤900) :
  Calls Tryz.prog 72 #[.pointer (some ⟨g,0,none⟩),.int .i64 0,.int .i64 who,.bool wake] w fun e w'=>e = .returned (.tuple #[])∧CoreAt w' B g k (x.unlock 0 who wake)∧FrX B Ts [] w w':=by
 obtain⟨vp,rg,bg,hg,cg,h⟩:=h
 have hx:x.unlock 0 who wake=if wake then { x with place:=some { p with lock:=p.lock.leave who },hub:=M.wakeL x.hub 0 } else { x with place:=some { p with lock:=p.lock.leave who } }:=by simp[M.Core.unlock,hp]
 rw[hx]
 clear hx
 go_enter Tryz.func72,Tryz.ntmps72
 go_wp2_with fail
 refine(at_yes w B g k x vp rg bg hg cg p h hp).mono ?_
 rintro e w1 ⟨⟨q,rfl,hq,ho,⟨cl,lg,h1,h2,hc,hcol,hl⟩⟩,rfl⟩
 have c3:=hc.cell 3
 simp at c3
 have HL:=hid (Lo.leave_any w B lg p.lock who hl hB h2 hn hst)
 have HX:=hid (fun w' l'=>CoreP.atLock (w':=w') (l':=l') h hq ho h1 h2 hc hcol)
 clear hl h hc ho hcol hp hst
 go_wp2_with fail
 refine HL.out.mono ?_
 rintro e w2 ⟨⟨_,_,_,rfl⟩,hl2,x2⟩
 have hP:=HX.out _ _ x2 hl2
 have c12:=hP.cell.cell 12
 simp at c12
 have HH:=hid (Hb.hwake w2 B hg x.hub 0 hP.hub hh hP.bhg)
 have HP:=hid hP
 clear hP hl2
 cases wake with
 | false =>
  go_wp2_with fail
  go_end0
  exact⟨rfl,⟨_,_,_,_,_,HP.out⟩,x2.mono (by decide) (fun _ h=>h)⟩
 | true =>
  go_wp2_with fail
  refine HH.out.mono ?_
  rintro e w3 ⟨⟨v,rfl⟩,h3,x3⟩
  go_wp2_with fail
  go_end0
  exact⟨rfl,⟨_,_,_,_,_,HP.out.atHub x3 h3⟩,(x2.mono (by decide) (fun _ h=>h)).trans (x3.mono (by decide) (fun _ h=>h))⟩
theorem awake_any (w:World)(B g:Nat)(k:Cf)(x:M.Core)(who:Int)(h:CoreAt w B g k x)(hh:x.hub.length≤900) :
  Calls Tryz.prog 61 #[.pointer (some ⟨g,0,none⟩),.int .i64 who] w fun e w'=>e = .returned (.bool (x.awake who))∧Fr [] w w':=by
 obtain⟨vp,rg,bg,hg,cg,h⟩:=h
 have hx:x.awake who=(M.isWoken x.hub who||M.due x.alarms x.now who):=rfl
 rw[hx]
 have c12:=h.cell.cell 12
 simp at c12
 have HW:=hid (Hb.hwoken w B hg x.hub who h.hub hh)
 have HD:=hid (fun w' (f:Fr [] w w')=>Ck.due_any w' B cg x.now who x.alarms (h.clk.fr0 f))
 have HC:=hid h.cell
 generalize M.due x.alarms x.now who=d at *
 generalize M.isWoken x.hub who=b at *
 clear h hx
 go_enter Tryz.func61,Tryz.ntmps61
 go_wp2_with fail
 refine HW.out.mono ?_
 rintro e w2 ⟨rfl,f2⟩
 have d13:=(HC.out.fr f2 (by simp)).cell 13
 simp at d13
 cases b with
 | true =>
  go_wp2_with fail
  go_ret
  exact⟨rfl,f2⟩
 | false =>
  go_wp2_with fail
  refine(HD.out _ f2).mono ?_
  rintro e w3 ⟨rfl,f3⟩
  go_wp2_with fail
  go_ret
  exact⟨rfl,f2.trans f3⟩
theorem rise_any (w:World)(B g:Nat)(k:Cf)(x:M.Core)(who:Int)(h:CoreAt w B g k x)(hB:B≤w.heap.size)(hh:x.hub.length≤900) :
  Calls Tryz.prog 73 #[.pointer (some ⟨g,0,none⟩),.int .i64 who] w fun e w'=>e = .returned (.tuple #[])∧CoreAt w' B g k (x.rise who)∧FrX B Ts [] w w':=by
 obtain⟨vp,rg,bg,hg,cg,h⟩:=h
 have c12:=h.cell.cell 12
 simp at c12
 have HR:=hid (Hb.hrem w B hg x.hub who h.hub hB h.bhg hh)
 have H0:=hid h
 clear h
 go_enter Tryz.func73,Tryz.ntmps73
 go_wp2_with fail
 refine HR.out.mono ?_
 rintro e w2 ⟨rfl,h2,x2⟩
 have hP:=H0.out.atHub x2 h2
 have d13:=hP.cell.cell 13
 simp at d13
 have HD:=hid (Ck.drop_any w2 B cg x.now who x.alarms hP.clk hP.bcg)
 have HP:=hid hP
 clear hP h2
 go_wp2_with fail
 refine HD.out.mono ?_
 rintro e w3 ⟨⟨b,rfl⟩,h3,x3⟩
 go_wp2_with fail
 go_end0
 exact⟨rfl,⟨_,_,_,_,_,HP.out.atClk x3 h3⟩,(x2.mono (by decide) (fun _ h=>h)).trans (x3.mono (by decide) (fun _ h=>h))⟩
theorem sleep_any (w:World)(B g:Nat)(k:Cf)(x:M.Core)(who at_:Int)(h:CoreAt w B g k x)(hB:B≤w.heap.size)(hh:x.hub.length≤90)(ha:x.alarms.length≤90) :
  Calls Tryz.prog 113 #[.pointer (some ⟨g,0,none⟩),.int .i64 who,.int .i64 0,.int .i64 at_] w fun e w'=>e = .returned (.tuple #[])∧CoreAt w' B g k (x.sleep who 0 at_)∧FrX B Ts [] w w':=by
 obtain⟨vp,rg,bg,hg,cg,h⟩:=h
 have c12:=h.cell.cell 12
 simp at c12
 have hx:x.sleep who 0 at_=if M.has who x.hub then { x with hub:=M.addL x.hub who 0 } else { x with hub:=M.addL x.hub who 0,alarms:=M.setA x.alarms who at_ }:=by
  unfold M.Core.sleep
  cases hh:M.has who x.hub<;>simp[M.addL,hh]
 rw[hx]
 have HR:=hid (Hb.hadd w B hg x.hub who 0 h.hub hB h.bhg (by omega))
 generalize M.addL x.hub who 0=L at *
 generalize M.has who x.hub=b at *
 have H0:=hid h
 clear h hx
 go_enter Tryz.func113,Tryz.ntmps113
 go_wp2_with fail
 refine HR.out.mono ?_
 rintro e w2 ⟨rfl,h2,x2⟩
 have hP:=H0.out.atHub x2 h2
 have d13:=hP.cell.cell 13
 simp at d13
 have HD:=hid (Ck.set_any w2 B cg x.now who at_ x.alarms hP.clk (Nat.le_trans hB x2.size) hP.bcg (by omega))
 have HP:=hid hP
 clear hP h2
 cases b with
 | true =>
  go_wp2_with fail
  go_end0
  exact⟨rfl,⟨_,_,_,_,_,HP.out⟩,x2.mono (by decide) (fun _ h=>h)⟩
 | false =>
  go_wp2_with fail
  refine HD.out.mono ?_
  rintro e w3 ⟨rfl,h3,x3⟩
  go_wp2_with fail
  go_end0
  exact⟨rfl,⟨_,_,_,_,_,HP.out.atClk x3 h3⟩,(x2.mono (by decide) (fun _ h=>h)).trans (x3.mono (by decide) (fun _ h=>h))⟩
theorem now_any (w:World)(B g:Nat)(k:Cf)(x:M.Core)(h:CoreAt w B g k x) :
  Calls Tryz.prog 104 #[.pointer (some ⟨g,0,none⟩)] w fun e w'=>e = .returned (.int .i64 x.now)∧w=w':=by
 obtain⟨vp,rg,bg,hg,cg,h⟩:=h
 have c13:=h.cell.cell 13
 simp at c13
 have HN:=hid (Ck.now_any w B cg x.now x.alarms h.clk)
 clear h
 go_enter Tryz.func104,Tryz.ntmps104
 go_wp2_with fail
 refine HN.out.mono ?_
 rintro e w2 ⟨rfl,rfl⟩
 go_wp2_with fail
 go_ret
 exact⟨rfl,rfl⟩
theorem tick_any (w:World)(B g:Nat)(k:Cf)(x:M.Core)(n:Int)(h:CoreAt w B g k x)(h0:0≤n)(h1:n≤1000000)(h2:0≤x.now)(h3:x.now≤1000000000) :
  Calls Tryz.prog 38 #[.pointer (some ⟨g,0,none⟩),.int .i64 n] w fun e w'=>e = .returned (.bool true)∧CoreAt w' B g k { x with now:=x.now+n }∧FrX B Ts [] w w':=by
 obtain⟨vp,rg,bg,hg,cg,h⟩:=h
 have c13:=h.cell.cell 13
 simp at c13
 have HN:=hid (Ck.tick_yes w B cg x.now n x.alarms h.clk h.bcg h0 h1 h2 h3)
 have H0:=hid h
 clear h
 go_enter Tryz.func38,Tryz.ntmps38
 go_wp2_with fail
 refine HN.out.mono ?_
 rintro e w2 ⟨rfl,h2,x2⟩
 go_wp2_with fail
 go_ret
 exact⟨rfl,⟨_,_,_,_,_,H0.out.atClk x2 h2⟩,x2.mono (by decide) (fun _ h=>h)⟩
theorem draw_any (w:World)(B g:Nat)(k:Cf)(x:M.Core)(vp:Value)(rg bg hg cg:Nat)(h:CoreP w B g k x vp rg bg hg cg)(hB:B≤g)(h0:0≤x.counter)(h1:x.counter<9223372036854775807) :
  Calls Tryz.prog 154 #[.pointer (some ⟨g,0,none⟩)] w fun e w'=>e = .returned (.tuple #[.int .i64 (x.counter+1),.bool true])∧CoreP w' B g k { x with counter:=x.counter+1 } vp rg bg hg cg∧FrX B [125] [] w w':=by
 have c8:=h.cell.cell 8
 have z8:=h.cell.frozen 8
 simp at c8
 have hgl:=h.cell.lt
 have hw:IntKind.i64.wrap (x.counter+1)=x.counter+1:=IntWalk.i64_in _ (by omega)
 have hne:(x.counter==9223372036854775807)=false:=by simp only[beq_eq_false_iff_ne,ne_eq];omega
 have HC:=hid (h.atCounter hB (x.counter+1))
 clear h
 go_enter Tryz.func154,Tryz.ntmps154
 go_wp2_with fail
 go_ret2
 exact⟨rfl,HC.out.1,HC.out.2⟩
end Go.Proofs.YtjmkkcckfbnmeaaGreatDoor.Cr
