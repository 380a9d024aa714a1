/- Walks. -/
import Derived.Test.YtocppjcocnckmaaGreatDoorM01
import Derived.Test.YtocppjcocnckmaaGreatDoorM47
import Derived.StillTailTactics
import Derived.Deep.RegionHeld3
set_option maxRecDepth 100000
set_option maxHeartbeats 8000000
set_option linter.all false
open Go.Lib (hid)
namespace Go.Proofs.YtocppjcocnckmaaGreatDoor
open Go.Proofs.Tryz
namespace Sv
open Go.RowKit Cr
def fg (w:World)(B g xp i:Nat)(k:Cf)(s:M.Srv)(vc:Value)(b:Blk)(w':World):Prop:=∃ bs' ve',ft w' B g xp k bs' (s.pick i) vc ve'/\FrX B (57::Ts) (g::b.all) w w'
theorem fg.bY {w w1 w':World}{B g xp i:Nat}{k:Cf}{s:M.Srv}{vc:Value}{b:Blk}(f:Fr [] w w1)(h:fg w1 B g xp i k s vc b w'):fg w B g xp i k s vc b w':=by
 obtain⟨bs',ve',h1,h2⟩:=h
 exact⟨bs',ve',h1,(FrX.aA f).trans h2⟩
theorem xN {s:M.Srv}{i:Nat}{m:M.bT}(hmi:s.ag[i]? = some m)(h:s.can i=false):s.pick i=s:=by
 unfold M.Srv.pick
 rw[hmi]
 simp[h]
theorem Db (w:World)(B g xp i:Nat)(k:Cf)(bs:List Blk)(s:M.Srv)(vc ve:Value)(b:Blk)(m:M.bT)(x:Cx)(h:ft w B g xp k bs s vc ve)(hbi:bs[i]? = some b)(hmi:s.ag[i]? = some m)(hx:db w B xp k.room b i m x)(hm:jk s i m)(hr0:20006<=k.room)(hr1:k.room<=100000)(hc:s.can i=false) :
  Calls prog 20 #[.pointer (some ⟨g,0,none⟩),.int .i64 i] w λe w'=>e = .returned (.bool (s.can i))/\fg w B g xp i k s vc b w':=by
 have HC:=hid (ef w B g xp i k bs s vc ve b m x h hbi hmi hx hm hr0 hr1)
 have HP:=hid (xN hmi hc)
 have HH:=hid h
 have HCc:=hid hc
 rw[hc] at HC
 clear h hx hm hmi hc
 go_enter func20,ntmps20
 go_wp2_with fail
 refine uu HC λw1 f1=>?_
 go_wp2_with fail
 go_ret
 rw[HCc]
 exact⟨rfl,bs,ve,by rw[HP];exact HH.fr0 f1,FrX.aA f1⟩
theorem jJ (w:World)(B g xp i:Nat)(k:Cf)(bs:List Blk)(s:M.Srv)(vc ve:Value)(b:Blk)(m:M.bT)(x:Cx)(h:ft w B g xp k bs s vc ve)(hbi:bs[i]? = some b)(hmi:s.ag[i]? = some m)(hx:db w B xp k.room b i m x)(hm:jk s i m)(hmc:M.mayCore s.core=true)(hr0:20006<=k.room)(hr1:k.room<=100000)(hc:s.can i=true)(h1:m.state=1)(hB:B<=w.heap.size)(hev:s.events.length<=90000)(hG:Sh.Gl w)(hB4:4<=B) :
  Calls prog 20 #[.pointer (some ⟨g,0,none⟩),.int .i64 i] w λe w'=>e = .returned (.bool (s.can i))/\fg w B g xp i k s vc b w':=by
 have HC:=hid (ef w B g xp i k bs s vc ve b m x h hbi hmi hx hm hr0 hr1)
 have hne:m.todo≠[]:=by
  intro e
  unfold M.Srv.can at hc
  rw[hmi] at hc
  simp[h1,e] at hc
 obtain⟨q,l,htd⟩:=List.exists_cons_of_ne_nil hne
 have HCc:=hid hc
 rw[hc] at HC
 have HR:=hid (λW (f:Fr [] w W)=>eS W B g xp i k bs s vc ve b m x q l (h.fr0 f) hbi hmi (hx.fr0 f) hm hmc h1 htd (Nat.le_trans hB f.size) hev (hG.fr0 f) hB4)
 have HH:=hid h
 have HX:=hid hx
 have H1:=hid h1
 clear h hx hm hmi hc htd hne h1 hmc hG
 go_enter func20,ntmps20
 go_wp2_with fail
 refine uu HC λw1 f1=>?_
 have h1:=HH.fr0 f1
 have hx1:=HX.fr0 f1
 obtain⟨gc,cc,hgc,hvc,hrc,hgcl,hcc⟩:=h1.ag.cell lU rfl hbi
 have m0:=hcc 0 _ (by omega) rfl
 have hil:(i:Int)<(bs.length:Int):=by have:=(List.getElem?_eq_some_iff.1 hbi).1;omega
 have c9:=h1.cell.cell 9
 have d0:=hx1.cell.cell 0
 simp[dH,ew,hvc] at c9
 simp[bA,H1.out] at d0
 simp at m0
 have HR1:=hid (HR w1 f1)
 have F1:=hid f1
 clear h1 hx1 hcc hrc f1
 go_wp2_with fail
 refine uu HR1 λw2 h2=>?_
 have HE:=hid (fg.bY F1 h2)
 clear h2
 go_wp2_with fail
 go_ret
 rw[HCc]
 exact⟨rfl,HE⟩
theorem xM {s:M.Srv}{i:Nat}{m:M.bT}(hmi:s.ag[i]? = some m)(h3:m.state=3):s.pick i=⟨s.core,s.ag.set i { m with state:=1,out:=m.out++[m.cL] },s.events++[⟨3,i,m.seq,m.cL⟩]⟩:=by
 unfold M.Srv.pick
 simp[hmi,M.Srv.can,h3]
theorem xY (m:M.bT):eF m++En.bytesOf (En.bE m.cL)=eF { m with state:=1,out:=m.out++[m.cL] }:=by
 unfold eF
 rw[En.fe]
 simp
theorem lG {w W:World}{B g xp i:Nat}{k:Cf}{bs:List Blk}{s:M.Srv}{vc ve:Value}{b:Blk}{m:M.bT}{x:Cx}{room:ByteArray}(h:ft w B g xp k bs s vc ve)(hbi:bs[i]? = some b)(hx:db w B xp k.room b i m x)(hp:Pi.bw W b.po k.room room false)(hf:Fr [b.po] w W) :
  Holds W g 103 (dH k s.core xp vc ve).toArray/\Own W B 104 1 vc bs.length (flat cp bs)/\Holds W b.c 112 (bA b m.state x).toArray/\Se.eO W b.se b.pi (jX m.bound) m.seq/\Pi.bw W b.pi k.room (kB m) false/\aF W B xp k s.core/\Ev.dz W B ve s.events/\FrX B [145] [] w W:=by
 have x1:FrX B [145] [] w W:=FrX.aB hf (by simpa using hx.bpo) (λy hy=>⟨145,by simp,by simp at hy;subst hy;exact Holds.ty hx.fK⟩)
 exact⟨h.cell.frx x1 (by decide) (by simp),h.ag.bf x1 (by decide),hx.cell.frx x1 (by decide) (by simp),hx.ka.frx x1 (by decide) (by simp),Holds.fr hx.inp hf (by have:=h.npo i b hbi;simp;exact Ne.symm this),h.core.frx x1 (by decide),h.evs.frx x1 (by decide) (by decide) (by decide),x1⟩
theorem iW {w W w3:World}{B g xp i:Nat}{k:Cf}{bs:List Blk}{s:M.Srv}{vc ve ve':Value}{b:Blk}{m:M.bT}{x:Cx}(h:ft w B g xp k bs s vc ve)(hbi:bs[i]? = some b)(hmi:s.ag[i]? = some m)(hx:db w B xp k.room b i m x)(h3:m.state=3)(hp:Pi.bw W b.po k.room (eF m++x.fr) false)(hf:Fr [b.po] w W)
  (hs:Holds w3 g 103 (dH k s.core xp vc ve').toArray) (he:Ev.dz w3 B ve' (s.events++[⟨3,i,m.seq,m.cL⟩])) (hf3:FrX B [57] [g] W w3) :
  fg w B g xp i k s vc b (w3.setCell ⟨b.c,0,none⟩ (.int .i64 1)):=by
 obtain⟨s1,o1,c1,se1,pi1,co1,ev1,x1⟩:=lG h hbi hx hp hf
 have hn3:∀ {y t:Nat} {cs:Array Value},Holds W y t cs->t≠103->t≠57->Holds w3 y t cs:=λhy ht h2=>hy.frx hf3 (by simpa using h2) (λhm=>hy.ne s1 ht (by simpa using hm))
 have c3:=hn3 c1 (by decide) (by decide)
 have f4:Fr [b.c] w3 (w3.setCell ⟨b.c,0,none⟩ (.int .i64 1)):=rZ.setCell (by simp) _
 have x4:FrX B [112] [] w3 (w3.setCell ⟨b.c,0,none⟩ (.int .i64 1)):=FrX.aB f4 (by simpa using hx.bc) (λy hy=>⟨112,by simp,by simp at hy;subst hy;exact c3.ty⟩)
 have hx3:FrX B [57,103] [] W w3:=(hf3.mono (Ts:=[57,103]) (by simp) (λ_ h=>h)).jY (λz hz=>.inr (.inr ⟨103,by simp,by simp at hz;subst hz;exact s1.ty⟩))
 have hfx:FrX B (57::Ts) (g::b.all) w (w3.setCell ⟨b.c,0,none⟩ (.int .i64 1)):=by
  refine FrX.trans ((FrX.bY hf (by simpa using hx.bpo)).mono (λ_ h=>h) (by simp[Blk.all])) (FrX.trans (hf3.mono (by simp) (by simp)) ((FrX.bY f4 (by simpa using hx.bc)).mono (λ_ h=>h) (by simp[Blk.all])))
 obtain⟨t1,t2,t3,t4,t5⟩:=hx.dh (.inr h3)
 obtain⟨a1,a2,a3,a4,a5⟩:=hx.ans h3
 refine⟨bs.set i b,ve',?_,hfx⟩
 rw[xM hmi h3]
 refine h.dh (b':=b) hbi hmi hx rfl ⟨rfl,rfl⟩ (hs.frx x4 (by decide) (by simp)) ((co1.frx hx3 (by decide)).frx x4 (by decide)) (x':=x) ?_ (he.frx x4 (by decide) (by decide) (by decide)) hfx (by decide) (λy hy=>by
  rcases List.mem_cons.1 hy with h'|h'
  ·exact .inl h'
  exact .inr (.inl h')) (λy hy=>.inl hy)
 have hpo:Pi.bw w3 b.po k.room (eF m++x.fr) false:=hn3 hp (by decide) (by decide)
 rw[a1,xY] at hpo
 refine⟨hx.bc,hx.bse,hx.bpi,hx.bpo,?_,Holds.frx (hn3 se1 (by decide) (by decide)) x4 (by decide) (by simp),Holds.frx (hn3 pi1 (by decide) (by decide)) x4 (by decide) (by simp),Holds.frx hpo x4 (by decide) (by simp),λe=>by simp at e,λe=>by simp at e,λ_=>hx.nta (by omega),λe=>by simp at e,λe=>by simp at e⟩
 have:=c3.set 0 (.int .i64 1)
 simpa[bA] using this
theorem AG (w:World)(B g xp i:Nat)(k:Cf)(bs:List Blk)(s:M.Srv)(vc ve:Value)(b:Blk)(m:M.bT)(x:Cx)(h:ft w B g xp k bs s vc ve)(hbi:bs[i]? = some b)(hmi:s.ag[i]? = some m)(hx:db w B xp k.room b i m x)(hm:jk s i m)(hr0:20006<=k.room)(hr1:k.room<=100000)(h3:m.state=3)(hB:B<=w.heap.size)(hev:s.events.length<=90000) :
  Calls prog 20 #[.pointer (some ⟨g,0,none⟩),.int .i64 i] w λe w'=>e = .returned (.bool (s.can i))/\fg w B g xp i k s vc b w':=by
 have hc:s.can i=true:=by
  unfold M.Srv.can
  rw[hmi]
  simp[h3]
 have HC:=hid (ef w B g xp i k bs s vc ve b m x h hbi hmi hx hm hr0 hr1)
 have HCc:=hid hc
 rw[hc] at HC
 have hrp:M.bH m.cL=true/\M.bF m.dh=true:=by
  rcases hm.st with⟨e,_⟩|⟨e,_⟩|⟨_,e1,e2⟩
  ·omega
  ·omega
  exact⟨e2,e1⟩
 have ho:=mJ hm.oa
 have hol:=hm.o
 have hrl:=lE hrp.1
 have hsz:(eF m).size<=18700:=by unfold eF;rw[En.aK];omega
 obtain⟨a1,a2,a3,a4,a5⟩:=hx.ans h3
 obtain⟨t1,t2,t3,t4,t5⟩:=hx.dh (.inr h3)
 have hfz:x.fr.size<=301:=by rw[a1,En.aK];exact hrl
 have HPt:=hid (λW (f:Fr [] w W)=>Pi.vU W b.po k.room (eF m) false x.fr (Holds.fr hx.fK f (by simp)) (by omega) (by omega) (by omega) (by simp[Pi.fits];omega))
 have HH:=hid h
 have HX:=hid hx
 have H3:=hid (And.intro h3 hmi)
 have HA:=hid (And.intro a2 (And.intro a3 (And.intro a4 a5)))
 have HT:=hid (And.intro t1 (And.intro t2 (And.intro t3 (And.intro t4 t5))))
 obtain⟨ia,ic,hvi⟩:=Own.form a3
 have HVI:=hid hvi
 clear h hx hm hmi hc h3 a1 a2 a3 a4 a5 t1 t2 t3 t4 t5 hrp ho hol hrl hsz hfz hvi
 go_enter func20,ntmps20
 go_wp2_with fail
 refine uu HC λw1 f1=>?_
 have h1:=HH.fr0 f1
 have hx1:=HX.fr0 f1
 obtain⟨gc,cc,hgc,hvc,hrc,hgcl,hcc⟩:=h1.ag.cell lU rfl hbi
 have m0:=hcc 0 _ (by omega) rfl
 have hil:(i:Int)<(bs.length:Int):=by have:=(List.getElem?_eq_some_iff.1 hbi).1;omega
 have c9:=h1.cell.cell 9
 have d0:=hx1.cell.cell 0
 have d2:=hx1.cell.cell 2
 have d19:=hx1.cell.cell 19
 simp[dH,ew,hvc] at c9
 simp[bA,H3.1] at d0 d2 d19
 simp at m0
 have HPt1:=hid (HPt w1.drew f1.drew)
 have H1:=hid (h1.fr0 ((Fr.refl [] w1).drew))
 have X1:=hid (hx1.fr0 ((Fr.refl [] w1).drew))
 have F1:=hid f1
 clear h1 hx1 hcc hrc f1
 go_upto_region 17 with fail
 go_still_tail 8,(by kernel_rfl)
 change wpList _ _ _ _ _ w1.drew
 go_wp2_with fail
 refine HPt1.mono ?_
 rintro e w2 ⟨rfl,p2,f2⟩
 have P2:=hid p2
 have F2:=hid f2
 obtain⟨s2,o2,c2,se2,pi2,co2,ev2,x2⟩:=lG H1 hbi X1 p2 f2
 rw[H3.1] at c2
 have e20:=c2.cell 20
 have e21:=c2.cell 21
 have e22:=c2.cell 22
 have e23:=c2.cell 23
 have e24:=c2.cell 24
 have e25:=c2.cell 25
 have e26:=c2.cell 26
 have e27:=c2.cell 27
 simp[bA,HA.1,HVI.out] at e20 e21 e22 e23 e24 e25 e26 e27
 have hBw2:B<=w2.heap.size:=Nat.le_trans hB (Nat.le_trans F1.size (Nat.le_trans (Fr.refl [] w1).drew.size f2.size))
 have HN:=hid (kI w2 B g xp i k s.core bs b vc ve (.slice ia m.cL.items.length ic) 3 3 x _ _ m.cL s.events hBw2 HH.bg s2 o2 hbi c2 se2 HT.1 (by rw[HT.2.2.1];exact HT.2.2.2.1.bf (((FrX.aA F1).trans (FrX.aA (Ts:=[145]) (S:=[]) (Fr.refl [] w1).drew)).trans x2) (by decide)) (by rw[HT.2.2.1];exact HT.2.2.2.2) ev2 (by rw[<-HVI];exact HA.2.1.bf (((FrX.aA F1.out).trans (FrX.aA (Ts:=[145]) (S:=[]) (Fr.refl [] w1).drew)).trans x2) (by decide)) HA.2.2.1 (by omega))
 simp only[Ev.rsc] at HN
 have hl2:=c2.lt
 clear p2 f2 s2 o2 c2 se2 pi2 co2 ev2 x2 d0 d2 d19 c9 m0
 go_wp2_with fail
 refine HN.mono ?_
 rintro e w3 ⟨rfl,ve3,hs3,he3,f3⟩
 rw[HT.2.1] at he3
 have HE:=hid (iW H1 hbi H3.2 X1 H3.1 P2 F2 hs3 he3 f3)
 have c3:Holds w3 b.c 112 (bA b 3 x).toArray:=by
  obtain⟨s2,_,c2,_⟩:=lG H1 hbi X1 P2 F2
  rw[H3.1] at c2
  exact c2.frx f3 (by decide) (λhm=>c2.ne s2 (by decide) (by simpa using hm))
 have g0:=c3.cell 0
 have g28:=c3.cell 28
 have gz0:=c3.frozen 0
 have gl:=c3.lt
 simp[bA,HA.2.2.2] at g0 g28
 clear c3 hs3 he3 f3 e20 e21 e22 e23 e24 e25 e26 e27
 go_wp2_with fail
 go_ret
 rw[HCc]
 exact⟨rfl,fg.bY (F1.trans ((Fr.refl [] w1).drew)) HE⟩
def cf4 (x:M.Core):Int × Int × Int × Int:=(x.bQ,x.ah,x.aH,x.aj)
theorem yY (x:M.Core)(p:M.Place)(ops:List M.Op)(ap:Bool)(a:M.aU):cf4 (x.write p ops ap a).1=cf4 x:=by
 unfold M.Core.write
 simp only[]
 split
 ·rfl
 split<;>rfl
theorem Cb (x:M.Core)(q:M.Req):cf4 (x.work q).1=cf4 x:=by
 unfold M.Core.work
 repeat (first|rfl|exact yY _ _ _ _ _|split)
theorem vu (x:M.Core)(id who:Int)(b:Bool):cf4 (x.unlock id who b)=cf4 x:=by
 unfold M.Core.unlock
 simp only[]
 cases x.place with
 | none=>cases b<;>rfl
 | some p =>
  simp only[]
  by_cases h:(id==0)=true
  ·simp only[h,if_true];cases b<;>rfl
  simp only[h];cases b<;>rfl
theorem sT (t:M.Task)(x:M.Core)(who:Int):cf4 (t.step x who).1=cf4 x:=by
 unfold M.Task.step
 repeat (first|rfl|exact Cb _ _|exact vu _ _ _ _|split|(simp only[];done)|(unfold M.Core.sleep;split)|(unfold M.Core.gG;split)|(unfold M.Core.create;split)|(unfold M.Core.lock;split)|unfold M.Core.lock|simp only[])
theorem qW {k:Cf}{x y:M.Core}{xp:Nat}{vc ve:Value}(h:cf4 x=cf4 y):dH k x xp vc ve=dH k y xp vc ve:=by
 simp only[cf4,Prod.mk.injEq] at h
 obtain⟨h1,h2,h3,h4⟩:=h
 simp[dH,ew,h1,h2,h3,h4]
structure Bz (w W:World)(B g xp:Nat)(k:Cf)(bs:List Blk)(c0 c:M.Core)(vc ve:Value)(b:Blk)(m:M.bT)(x:Cx)(ta i:Nat)(t:M.Task)(ev:List M.Ev):Prop where
 srv:Holds W g 103 (dH k c0 xp vc ve).toArray
 own:Own W B 104 1 vc bs.length (flat cp bs)
 con:Holds W b.c 112 (bA b 2 x).toArray
 ses:Se.eO W b.se b.pi (jX m.bound) m.seq
 inp:Pi.bw W b.pi k.room (kB m) false
 fK:Pi.bw W b.po k.room (eF m) false
 ops:Ev.bD W B x.vo m.dh.ops
 core:aF W B xp k c
 task:Tk.cU W B ta xp i t
 evs:Ev.dz W B ve ev
 frx:FrX B (57::Ts) (g::b.all) w W
section
variable {w W W':World} {B g xp:Nat} {k:Cf} {bs:List Blk} {c0 c c':M.Core} {vc ve ve':Value} {b:Blk} {m:M.bT} {x:Cx} {ta i:Nat} {t t':M.Task} {ev ev':List M.Ev}
theorem Bz.fr0 (h:Bz w W B g xp k bs c0 c vc ve b m x ta i t ev)(hf:Fr [] W W'):Bz w W' B g xp k bs c0 c vc ve b m x ta i t ev:=by
 obtain⟨vo,vi,hT⟩:=h.task
 exact⟨h.srv.fr hf (by simp),Own.fr0 h.own hf,h.con.fr hf (by simp),h.ses.fr hf (by simp),Holds.fr h.inp hf (by simp),Holds.fr h.fK hf (by simp),Own.fr0 h.ops hf,h.core.fr0 hf,⟨vo,vi,hT.fr0 hf⟩,h.evs.frx (FrX.aA (Ts:=[]) hf) (by simp) (by simp) (by simp),h.frx.trans (FrX.aA hf)⟩
theorem Bz.note (h:Bz w W B g xp k bs c0 c vc ve b m x ta i t ev)(hs:Holds W' g 103 (dH k c0 xp vc ve').toArray)(he:Ev.dz W' B ve' ev')(hf:FrX B [57] [g] W W'):Bz w W' B g xp k bs c0 c vc ve' b m x ta i t ev':=by
 obtain⟨vo,vi,hT⟩:=h.task
 have hn:∀ {y t:Nat} {cs:Array Value},Holds W y t cs->t≠103->y∉[g]:=λhy ht hm=>hy.ne h.srv ht (by simpa using hm)
 have hx:FrX B [57,103] [] W W':=(hf.mono (Ts:=[57,103]) (by simp) (λ_ h=>h)).jY (λz hz=>.inr (.inr ⟨103,by simp,by simp at hz;subst hz;exact h.srv.ty⟩))
 exact⟨hs,h.own.bf hx (by decide),h.con.frx hf (by decide) (hn h.con (by decide)),Holds.frx h.ses hf (by decide) (hn h.ses (by decide)),Holds.frx h.inp hf (by decide) (hn h.inp (by decide)),Holds.frx h.fK hf (by decide) (hn h.fK (by decide)),h.ops.bf hx (by decide),h.core.frx hx (by decide),⟨vo,vi,hT.frx hx (by decide) (by decide) (by decide)⟩,he,h.frx.trans (hf.mono (by simp) (by simp))⟩
theorem Bz.step (h:Bz w W B g xp k bs c0 c vc ve b m x ta i t ev)(hta:b.ta=some ta)(hs:Tk.Stepped W B ta xp i k (c',t') W'):Bz w W' B g xp k bs c0 c' vc ve b m x ta i t' ev:=by
 obtain⟨vo,vi,hT⟩:=h.task
 obtain⟨h1,h2,h3⟩:=hs
 have hn:∀ {y t:Nat} {cs:Array Value},Holds W y t cs->t≠153->y∉[ta]:=λhy ht hm=>hy.ne hT.cell ht (by simpa using hm)
 have hx:FrX B (153::Ts) [] W W':=Tk.CK h3 hT.cell.ty
 exact⟨h.srv.frx h3 (by decide) (hn h.srv (by decide)),h.own.bf hx (by decide),h.con.frx h3 (by decide) (hn h.con (by decide)),Holds.frx h.ses h3 (by decide) (hn h.ses (by decide)),Holds.frx h.inp h3 (by decide) (hn h.inp (by decide)),Holds.frx h.fK h3 (by decide) (hn h.fK (by decide)),h.ops.bf hx (by decide),h2,h1,h.evs.frx hx (by decide) (by decide) (by decide),h.frx.trans (h3.mono (λ_ h=>by simp[h]) (by simp[Blk.all,hta]))⟩
end
open M in
theorem pI (t:Task)(x:Core)(who:Int)(hq:(t.step x who).2.ax=8)(h0:t.ax≠8):(t.step x who).2.aX=true:=by
 revert hq
 unfold Task.step
 split
 ·split
  ·exact λ_=>rfl
  split
  ·exact λ_=>rfl
  split
  ·exact λ_=>rfl
  intro h;simp at h
 split
 ·intro h;simp at h
 split
 ·split
  ·intro h;simp at h
  simp only[]
  split
  ·split
   ·exact λ_=>rfl
   intro h;simp at h
  split
  ·exact λ_=>rfl
  split<;>exact λ_=>rfl
 split
 ·simp only[]
  intro h;split at h<;>simp at h
 split
 ·intro h;simp only at h;split at h<;>simp at h
 split
 ·intro h
  simp only at h ⊢
  split at h
  ·assumption
  simp at h
 split
 ·intro h;simp at h
 intro h;exact absurd h h0
theorem ED (t:M.Task)(x:M.Core)(who:Int):(t.step x who).2.q=t.q:=by
 unfold M.Task.step
 split
 ·split
  ·rfl
  split
  ·rfl
  split<;>rfl
 split
 ·rfl
 split
 ·split
  ·rfl
  simp only[]
  split
  ·split<;>rfl
  split
  ·rfl
  split<;>rfl
 split
 ·rfl
 split
 ·rfl
 split
 ·rfl
 split
 ·rfl
 rfl
def evS (i:Nat)(m:M.bT)(r:M.Core × M.Task):List M.Ev:=if r.2.aX&&!m.task.aX then [⟨2,i,m.seq,r.2.aM⟩] else []
theorem dq {s:M.Srv}{i:Nat}{m:M.bT}(hmi:s.ag[i]? = some m)(h2:m.state=2)(hc:s.can i=true):s.pick i=if (m.task.step s.core i).2.ax=8 then ⟨(m.task.step s.core i).1,s.ag.set i { m with task:=(m.task.step s.core i).2,state:=3,cL:=(m.task.step s.core i).2.aM },s.events++evS i m (m.task.step s.core i)⟩
  else ⟨(m.task.step s.core i).1,s.ag.set i { m with task:=(m.task.step s.core i).2 },s.events++evS i m (m.task.step s.core i)⟩:=by
 unfold M.Srv.pick
 simp only[hmi,hc,h2,Bool.not_true,Bool.false_eq_true,if_false,Int.reduceEq,if_true]
 rfl
theorem qu {i:Nat}{m:M.bT}{r:M.Core × M.Task}{l:List M.Ev}(h:(r.2.aX&&!m.task.aX)=false):l++evS i m r=l:=by simp[evS,h]
theorem wu {i:Nat}{m:M.bT}{r:M.Core × M.Task}{l:List M.Ev}(h:(r.2.aX&&!m.task.aX)=true):l++evS i m r=l++[⟨2,i,m.seq,r.2.aM⟩]:=by simp[evS,h]
theorem vL (w:World)(B g xp:Nat)(who:Int)(t:M.Task)(h:Tk.cU w B g xp who t)(hB:B<=w.heap.size)(h8:¬ t.ax=8) :
  Calls prog 48 #[.pointer (some ⟨g,0,none⟩)] w λe w'=>∃ v,e = .returned (.tuple #[.agg (Ev.rsc { kind:=0 } v).toArray,.bool false])/\Ev.aV w' B v []/\Fr [] w w':=by
 have H:=Tk.fP w B g xp who t h hB
 simp only[h8,if_false,decide_false] at H
 exact H
theorem zK (w:World)(B g xp:Nat)(who:Int)(t:M.Task)(h:Tk.cU w B g xp who t)(hB:B<=w.heap.size)(h8:t.ax=8) :
  Calls prog 48 #[.pointer (some ⟨g,0,none⟩)] w λe w'=>∃ v,e = .returned (.tuple #[.agg (Ev.rsc t.aM v).toArray,.bool true])/\Ev.aV w' B v t.aM.items/\Fr [] w w':=by
 have H:=Tk.fP w B g xp who t h hB
 simp only[h8,if_true,decide_true] at H
 exact H
section
variable {w W W':World} {B g xp i ta:Nat} {k:Cf} {bs:List Blk} {s:M.Srv} {vc ve ve':Value} {b:Blk} {m:M.bT} {x:Cx} {r:M.Core × M.Task}
theorem mH (h:ft w B g xp k bs s vc ve)(hbi:bs[i]? = some b)(hmi:s.ag[i]? = some m)(hx:db w B xp k.room b i m x)(h2:m.state=2)(hc:s.can i=true)(hr:m.task.step s.core i=r)(hta:b.ta=some ta)(hBt:B<=ta)(htv:x.tv = .pointer (some ⟨ta,0,none⟩))(h8:¬ r.2.ax=8)
  (Z:Bz w W B g xp k bs s.core r.1 vc ve' b m x ta i r.2 (s.events++evS i m r)):fg w B g xp i k s vc b W:=by
 obtain⟨t1,t2,t3,t4,t5⟩:=hx.dh (.inl h2)
 refine⟨bs.set i b,ve',?_,Z.frx⟩
 rw[dq hmi h2 hc,hr,if_neg h8]
 refine h.dh (b':=b) hbi hmi hx rfl ⟨rfl,rfl⟩ (by rw[qW (show cf4 r.1=cf4 s.core by rw[<-hr];exact sT _ _ _)];exact Z.srv) Z.core (x':=x) ?_ Z.evs Z.frx (by decide) (λy hy=>by
  rcases List.mem_cons.1 hy with h'|h'
  ·exact .inl h'
  exact .inr (.inl h')) (λy hy=>.inl hy)
 exact⟨hx.bc,hx.bse,hx.bpi,hx.bpo,by have:=Z.con;rw[<-h2] at this;exact this,Z.ses,Z.inp,Z.fK,λ_=>⟨ta,hta,hBt,htv,Z.task⟩,λ_=>⟨t1,t2,t3,Z.ops,t5⟩,λe=>absurd h2 e,λ_=>by show r.2.q.kind≠1;rw[<-hr,ED];exact hx.tk h2,λe=>by simp[h2] at e⟩
theorem step_done {v:Value}(h:ft w B g xp k bs s vc ve)(hbi:bs[i]? = some b)(hmi:s.ag[i]? = some m)(hx:db w B xp k.room b i m x)(h2:m.state=2)(hc:s.can i=true)(hr:m.task.step s.core i=r)(h8:r.2.ax=8)
  (Z:Bz w W B g xp k bs s.core r.1 vc ve' b m x ta i r.2 (s.events++evS i m r)) (hc':Holds W' b.c 112 (bA b 3 { x with fr:=En.bytesOf (En.bE r.2.aM),rp:=r.2.aM,vi:=v,last:=false }).toArray) (hi:Ev.aV W B v r.2.aM.items) (hl:r.2.aM.items.length<=20) (hf:Fr [b.c] W W'):fg w B g xp i k s vc b W':=by
 obtain⟨t1,t2,t3,t4,t5⟩:=hx.dh (.inl h2)
 have x6:FrX B [112] [] W W':=FrX.aB hf (by simpa using hx.bc) (λy hy=>⟨112,by simp,by simp at hy;subst hy;exact Z.con.ty⟩)
 have hfx:FrX B (57::Ts) (g::b.all) w W':=Z.frx.trans ((FrX.bY hf (by simpa using hx.bc)).mono (λ_ h=>h) (by simp[Blk.all]))
 have hnc:∀ {y t:Nat} {cs:Array Value},Holds W y t cs->t≠112->Holds W' y t cs:=λhy ht=>hy.frx x6 (by simpa using ht) (by simp)
 refine⟨bs.set i { b with ta:=none },ve',?_,hfx⟩
 rw[dq hmi h2 hc,hr,if_pos h8]
 refine h.dh (b':={ b with ta:=none }) hbi hmi hx rfl ⟨rfl,rfl⟩ (by rw[qW (show cf4 r.1=cf4 s.core by rw[<-hr];exact sT _ _ _)];exact hnc Z.srv (by decide)) (Z.core.frx x6 (by decide)) (x':={ x with fr:=En.bytesOf (En.bE r.2.aM),rp:=r.2.aM,vi:=v,last:=false }) ?_ (Z.evs.frx x6 (by decide) (by decide) (by decide)) hfx (by decide) (λy hy=>by
  rcases List.mem_cons.1 hy with h'|h'
  ·exact .inl h'
  ·exact .inr (.inl h')) (λy hy=>.inl (by
  simp only[Blk.all,List.mem_cons,Option.toList,List.not_mem_nil,or_false] at hy
  rcases hy with rfl|rfl|rfl|rfl<;>simp[Blk.all]))
 exact⟨hx.bc,hx.bse,hx.bpi,hx.bpo,hc',hnc Z.ses (by decide),hnc Z.inp (by decide),hnc Z.fK (by decide),λe=>by simp at e,λ_=>⟨t1,t2,t3,Z.ops.bf x6 (by decide),t5⟩,λ_=>rfl,λe=>by simp at e,λ_=>⟨rfl,rfl,hi.bf x6 (by decide),hl,rfl⟩⟩
end
theorem xL (w:World)(B g xp i:Nat)(k:Cf)(bs:List Blk)(s:M.Srv)(vc ve:Value)(b:Blk)(m:M.bT)(x:Cx)(h:ft w B g xp k bs s vc ve)(hbi:bs[i]? = some b)(hmi:s.ag[i]? = some m)(hx:db w B xp k.room b i m x)(hm:jk s i m)(hr0:20006<=k.room)(hr1:k.room<=100000)(hc:s.can i=true)(h2:m.state=2)(hB:B<=w.heap.size)(hev:s.events.length<=90000) :
  Calls prog 20 #[.pointer (some ⟨g,0,none⟩),.int .i64 i] w λe w'=>e = .returned (.bool (s.can i))/\fg w B g xp i k s vc b w':=by
 have HC:=hid (ef w B g xp i k bs s vc ve b m x h hbi hmi hx hm hr0 hr1)
 have HCc:=hid hc
 rw[hc] at HC
 have htc:m.task.can s.core i=true:=by
  unfold M.Srv.can at hc
  rw[hmi] at hc
  simpa[h2] using hc
 obtain⟨hmcan,hmst⟩:M.eo s.core m.task=true/\M.fV s.core m.task i=true:=by
  rcases hm.st with⟨e,_⟩|⟨_,_,e2,e3⟩|⟨e,_⟩
  ·omega
  ·exact⟨e2,e3 htc⟩
  omega
 obtain⟨ta,hta,hBt,htv,htk⟩:=hx.ta h2
 obtain⟨t1,t2,t3,t4,t5⟩:=hx.dh (.inl h2)
 have hok:M.bH (m.task.step s.core i).2.aM=true∨(m.task.step s.core i).2.aX=false:=by
  have hmst':=hmst
  unfold M.fV at hmst'
  simp only[Bool.and_eq_true,Bool.or_eq_true,Bool.not_eq_true'] at hmst'
  exact hmst'.1.2.symm
 have h80:m.task.ax≠8:=λe=>by
  unfold M.Task.can at htc
  simp[e] at htc
 have hpd:(m.task.step s.core i).2.ax=8->(m.task.step s.core i).2.aX=true:=λe=>pI _ _ _ e h80
 have HSt:=hid (λW (f:Fr [] w W) (hT:Tk.cU W B ta xp i m.task) (hC:aF W B xp k s.core)=>Tk.zN W B ta xp i m.task k s.core hT hC hBt h.bxp (Nat.le_trans hB f.size) hmcan htc hmst (hx.tk h2))
 have HR:=hid (show ∃ r,m.task.step s.core i=r from ⟨_,rfl⟩)
 obtain⟨r,hr⟩:=HR.out
 rw[hr] at HSt hok hpd
 have Z0:=hid (show Bz w w B g xp k bs s.core s.core vc ve b m x ta i m.task s.events from ⟨h.cell,h.ag,by have:=hx.cell;rw[h2] at this;exact this,hx.ka,hx.inp,hx.fK,t4,h.core,htk,h.evs,FrX.refl _ _ _ _⟩)
 have HH:=hid h
 have HX:=hid hx
 have HF:=hid (And.intro h2 (And.intro hmi (And.intro hr (And.intro hta (And.intro hBt (And.intro htv (And.intro t1 (And.intro t2 (And.intro t3 (And.intro t5 (And.intro hok hpd)))))))))))
 obtain⟨wb,hwb⟩:∃ wb,m.task.aX=wb:=⟨_,rfl⟩
 obtain⟨ib,hib⟩:∃ ib,r.2.aX=ib:=⟨_,rfl⟩
 obtain⟨dn,hdn⟩:∃ dn,decide (r.2.ax=8)=dn:=⟨_,rfl⟩
 have HBs:=hid (And.intro hwb (And.intro hib hdn))
 clear h hx hm hmi hc h2 htc hmcan hmst htk t1 t2 t3 t4 t5 hok h80 hpd HR hr hta hwb hib hdn
 have Hbt:=hid hBt
 have Htv:=hid htv
 clear htv hBt
 go_enter func20,ntmps20
 go_wp2_with fail
 refine uu HC λw1 f1=>?_
 have Z1:=hid (Z0.fr0 f1)
 have F1:=hid f1
 obtain⟨gc,cc,hgc,hvc,hrc,hgcl,hcc⟩:=Z1.own.cell lU rfl hbi
 have m0:=hcc 0 _ (by omega) rfl
 have hil:(i:Int)<(bs.length:Int):=by have:=(List.getElem?_eq_some_iff.1 hbi).1;omega
 have c9:=Z1.srv.cell 9
 have d0:=Z1.con.cell 0
 have d3:=Z1.con.cell 3
 simp[dH,ew,hvc] at c9
 simp[bA,Htv.out] at d0 d3
 simp at m0
 have HP1:=hid (Tk.oQ w1 B ta xp i m.task Z1.task (Nat.le_trans hB f1.size))
 rw[HBs.1] at HP1
 clear hcc hrc f1
 go_wp2_with fail
 refine HP1.mono ?_
 rintro e w2 ⟨v2,rfl,hi2,f2⟩
 obtain⟨a2,c2',hv2⟩:=Own.form hi2
 subst hv2
 have hl1:=Z1.con.lt
 have Z2:=hid (Z1.fr0 f2)
 have F2:=hid (F1.trans f2)
 have e3:=Z2.con.cell 3
 simp[bA,Htv.out] at e3
 have hl2:=Z2.con.lt
 clear f2 hi2 c9 d0 d3 m0 hgcl
 generalize (if wb=true then m.task.aM else ({ kind:=0 } : M.aU))=p0 at *
 simp only[Ev.rsc]
 go_upto_region 9 with fail
 have fa:Fr [] w2 (w2.alloc (.cells (Ev.rsc p0 (.slice a2 p0.items.length c2')).toArray 55)):=rZ.alloc _
 have HS3:=hid (HSt _ (F2.trans fa) (Z2.fr0 fa).task (Z2.fr0 fa).core)
 have Z3:=hid (Z2.fr0 fa)
 have hBa:=Nat.le_trans hB (F2.trans fa).size
 clear fa
 simp only[Ev.rsc] at HS3 Z3 hBa
 go_wp2_with fail
 refine uu HS3 λw4 hst4=>?_
 have Z4:=hid (Z3.step HF.2.2.2.1 hst4)
 have hB4:=Nat.le_trans hBa hst4.2.2.size
 have g3:=Z4.con.cell 3
 simp[bA,Htv.out] at g3
 have HP4:=hid (Tk.oQ w4 B ta xp i r.2 Z4.task hB4)
 rw[HBs.2.1] at HP4
 have hl4:=Z4.con.lt
 clear hst4 e3
 go_wp2_with fail
 refine HP4.mono ?_
 rintro e w5 ⟨v5,rfl,hi5,f5⟩
 obtain⟨a5,c5',hv5⟩:=Own.form hi5
 subst hv5
 have Z5:=hid (Z4.fr0 f5)
 have HI5:=hid hi5
 have hB5:=Nat.le_trans hB4 f5.size
 clear f5 hi5 g3
 have HQ:=hid (show (ib=true->r.2.aM.items.length<=20) from λe=>by
  rcases HF.2.2.2.2.2.2.2.2.2.2.1 with q|q
  ·exact Nat.le_trans (Rp.kE q).l1 (by decide)
  rw[HBs.2.1,e] at q;cases q)
 have hl5:=Z5.con.lt
 have e5:=Z5.con.cell 3
 simp[bA,Htv.out] at e5
 generalize hp5:(if ib=true then r.2.aM else ({ kind:=0 } : M.aU))=p5 at *
 have HP5:=hid hp5
 clear hp5 hl1 hl2 hl4
 simp only[Ev.rsc]
 cases ib
 ·cases dn
  ·cases wb
   ·go_upto_region 13 with fail
    have fa:Fr [] w5 (w5.alloc (.cells (Ev.rsc p5 (.slice a5 p5.items.length c5')).toArray 55)):=rZ.alloc _
    have Z6:=hid (Z5.fr0 fa)
    have hB6:=Nat.le_trans hB5 fa.size
    clear fa
    simp only[Ev.rsc] at Z6 hB6
    have h8:¬ r.2.ax=8:=of_decide_eq_false HBs.2.2
    have HAn:=hid (vL _ B ta xp i r.2 Z6.task hB6 h8)
    go_wp2_with fail
    refine HAn.mono ?_
    rintro e w9 ⟨v9,rfl,hi9,f9⟩
    obtain⟨a9,c9,hv9⟩:=Own.form hi9
    subst hv9
    have Z9:=hid (Z6.fr0 f9)
    simp only[Ev.rsc,List.length_nil]
    clear f9 hi9
    go_wp2_with fail
    go_ret
    rw[HCc]
    obtain⟨h2,hmi,hr,hta,hBt,htv,-,-,-,-,-,-⟩:=HF.out
    exact⟨rfl,mH HH hbi hmi HX h2 HCc hr hta hBt htv h8 (by rw[qu (by rw[HBs.1,HBs.2.1];rfl)];exact Z9.fr0 ((Fr.refl [] w9).alloc _))⟩
   go_upto_region 13 with fail
   have fa:Fr [] w5 (w5.alloc (.cells (Ev.rsc p5 (.slice a5 p5.items.length c5')).toArray 55)):=rZ.alloc _
   have Z6:=hid (Z5.fr0 fa)
   have hB6:=Nat.le_trans hB5 fa.size
   clear fa
   simp only[Ev.rsc] at Z6 hB6
   have h8:¬ r.2.ax=8:=of_decide_eq_false HBs.2.2
   have HAn:=hid (vL _ B ta xp i r.2 Z6.task hB6 h8)
   go_wp2_with fail
   refine HAn.mono ?_
   rintro e w9 ⟨v9,rfl,hi9,f9⟩
   obtain⟨a9,c9,hv9⟩:=Own.form hi9
   subst hv9
   have Z9:=hid (Z6.fr0 f9)
   simp only[Ev.rsc,List.length_nil]
   clear f9 hi9
   go_wp2_with fail
   go_ret
   rw[HCc]
   obtain⟨h2,hmi,hr,hta,hBt,htv,-,-,-,-,-,-⟩:=HF.out
   exact⟨rfl,mH HH hbi hmi HX h2 HCc hr hta hBt htv h8 (by rw[qu (by rw[HBs.1,HBs.2.1];rfl)];exact Z9.fr0 ((Fr.refl [] w9).alloc _))⟩
  exact absurd (HF.2.2.2.2.2.2.2.2.2.2.2 (of_decide_eq_true HBs.2.2)) (by rw[HBs.2.1];decide)
 cases wb
 ·go_upto_region 12 with fail
  have hp5:r.2.aM=p5:=by simpa using HP5.out
  have fa:Fr [] w5 (w5.alloc (.cells (Ev.rsc p5 (.slice a5 p5.items.length c5')).toArray 55)):=rZ.alloc _
  have Z6:=hid (Z5.fr0 fa)
  have hB6:=Nat.le_trans hB5 fa.size
  have HN:=hid (kI _ B g xp i k s.core bs b vc ve (.slice a5 p5.items.length c5') 2 2 x _ _ p5 s.events hB6 HH.bg Z6.srv Z6.own hbi Z6.con Z6.ses HF.2.2.2.2.2.2.1 (by rw[HF.2.2.2.2.2.2.2.2.1];exact Z6.ops) (by rw[HF.2.2.2.2.2.2.2.2.1];exact HF.2.2.2.2.2.2.2.2.2.1) Z6.evs (Own.fr0 HI5 fa) (by rw[<-hp5];exact HQ.out rfl) (by omega))
  clear fa
  simp only[Ev.rsc] at Z6 hB6 HN
  go_wp2_with fail
  refine HN.mono ?_
  rintro e w7 ⟨rfl,ve7,hs7,he7,f7⟩
  rw[HF.2.2.2.2.2.2.2.1,<-hp5] at he7
  have Z7:=hid (Z6.note hs7 he7 f7)
  have hB7:=Nat.le_trans hB6 f7.size
  have e7:=Z7.con.cell 3
  have hl7:=Z7.con.lt
  simp[bA,Htv.out] at e7
  clear hs7 he7 f7 e5 hp5
  cases dn
  ·have h8:¬ r.2.ax=8:=of_decide_eq_false HBs.2.2
   have HAn:=hid (vL w7 B ta xp i r.2 Z7.task hB7 h8)
   go_wp2_with fail
   refine HAn.mono ?_
   rintro e w9 ⟨v9,rfl,hi9,f9⟩
   obtain⟨a9,c9,hv9⟩:=Own.form hi9
   subst hv9
   have Z9:=hid (Z7.fr0 f9)
   simp only[Ev.rsc,List.length_nil]
   clear f9 hi9
   go_wp2_with fail
   go_ret
   rw[HCc]
   obtain⟨h2,hmi,hr,hta,hBt,htv,-,-,-,-,-,-⟩:=HF.out
   exact⟨rfl,mH HH hbi hmi HX h2 HCc hr hta hBt htv h8 (by rw[wu (by rw[HBs.1,HBs.2.1];rfl)];exact Z9.fr0 ((Fr.refl [] w9).alloc _))⟩
  have h8:r.2.ax=8:=of_decide_eq_true HBs.2.2
  have HAn:=hid (zK w7 B ta xp i r.2 Z7.task hB7 h8)
  have e6:=Z7.con.cell 3
  have hl6:=Z7.con.lt
  simp[bA,Htv.out] at e6
  go_wp2_with fail
  refine HAn.mono ?_
  rintro e w9 ⟨v9,rfl,hi9,f9⟩
  obtain⟨a9,c9,hv9⟩:=Own.form hi9
  subst hv9
  have Z9:=hid (Z7.fr0 f9)
  have HI9:=hid hi9
  simp only[Ev.rsc]
  clear f9 hi9 e6
  go_upto_region 15 with fail
  have fa9:Fr [] w9 (w9.alloc (.cells (Ev.rsc r.2.aM (.slice a9 r.2.aM.items.length c9)).toArray 55)):=rZ.alloc _
  have hro:M.bH r.2.aM=true:=by
   rcases HF.2.2.2.2.2.2.2.2.2.2.1 with q|q
   ·exact q
   exact absurd (HBs.2.1.symm.trans q) (by decide)
  have HSA:=hid (fP _ B g b (.slice a9 r.2.aM.items.length c9) 2 x r.2.aM (Z9.fr0 fa9).con (Own.fr0 HI9 fa9) hro)
  have Z10:=hid (Z9.fr0 fa9)
  have HI10:=hid (Own.fr0 HI9 fa9)
  have hro':=hid (Nat.le_trans (Rp.kE hro).l1 (show 2<=20 by decide))
  clear fa9 hro
  simp only[Ev.rsc] at HSA Z10 HI10
  go_wp2_with fail
  refine HSA.mono ?_
  rintro e w11 ⟨rfl,c11,f11⟩
  go_wp2_with fail
  go_ret
  rw[HCc]
  obtain⟨h2,hmi,hr,hta,hBt,htv,-,-,-,-,-,-⟩:=HF.out
  exact⟨rfl,step_done HH hbi hmi HX h2 HCc hr h8 (by rw[wu (by rw[HBs.1,HBs.2.1];rfl)];exact Z10) c11 HI10 hro'.out f11⟩
 cases dn
 ·go_upto_region 13 with fail
  have fa:Fr [] w5 (w5.alloc (.cells (Ev.rsc p5 (.slice a5 p5.items.length c5')).toArray 55)):=rZ.alloc _
  have Z6:=hid (Z5.fr0 fa)
  have hB6:=Nat.le_trans hB5 fa.size
  clear fa
  simp only[Ev.rsc] at Z6 hB6
  have h8:¬ r.2.ax=8:=of_decide_eq_false HBs.2.2
  have HAn:=hid (vL _ B ta xp i r.2 Z6.task hB6 h8)
  go_wp2_with fail
  refine HAn.mono ?_
  rintro e w9 ⟨v9,rfl,hi9,f9⟩
  obtain⟨a9,c9,hv9⟩:=Own.form hi9
  subst hv9
  have Z9:=hid (Z6.fr0 f9)
  simp only[Ev.rsc,List.length_nil]
  clear f9 hi9
  go_wp2_with fail
  go_ret
  rw[HCc]
  obtain⟨h2,hmi,hr,hta,hBt,htv,-,-,-,-,-,-⟩:=HF.out
  exact⟨rfl,mH HH hbi hmi HX h2 HCc hr hta hBt htv h8 (by rw[qu (by rw[HBs.1,HBs.2.1];rfl)];exact Z9.fr0 ((Fr.refl [] w9).alloc _))⟩
 go_upto_region 13 with fail
 have fa:Fr [] w5 (w5.alloc (.cells (Ev.rsc p5 (.slice a5 p5.items.length c5')).toArray 55)):=rZ.alloc _
 have Z6:=hid (Z5.fr0 fa)
 have hB6:=Nat.le_trans hB5 fa.size
 clear fa
 simp only[Ev.rsc] at Z6 hB6
 have h8:r.2.ax=8:=of_decide_eq_true HBs.2.2
 have HAn:=hid (zK _ B ta xp i r.2 Z6.task hB6 h8)
 have e6:=Z6.con.cell 3
 have hl6:=Z6.con.lt
 simp[bA,Htv.out] at e6
 go_wp2_with fail
 refine HAn.mono ?_
 rintro e w9 ⟨v9,rfl,hi9,f9⟩
 obtain⟨a9,c9,hv9⟩:=Own.form hi9
 subst hv9
 have Z9:=hid (Z6.fr0 f9)
 have HI9:=hid hi9
 simp only[Ev.rsc]
 clear f9 hi9 e6
 go_upto_region 15 with fail
 have fa9:Fr [] w9 (w9.alloc (.cells (Ev.rsc r.2.aM (.slice a9 r.2.aM.items.length c9)).toArray 55)):=rZ.alloc _
 have hro:M.bH r.2.aM=true:=by
  rcases HF.2.2.2.2.2.2.2.2.2.2.1 with q|q
  ·exact q
  exact absurd (HBs.2.1.symm.trans q) (by decide)
 have HSA:=hid (fP _ B g b (.slice a9 r.2.aM.items.length c9) 2 x r.2.aM (Z9.fr0 fa9).con (Own.fr0 HI9 fa9) hro)
 have Z10:=hid (Z9.fr0 fa9)
 have HI10:=hid (Own.fr0 HI9 fa9)
 have hro':=hid (Nat.le_trans (Rp.kE hro).l1 (show 2<=20 by decide))
 clear fa9 hro
 simp only[Ev.rsc] at HSA Z10 HI10
 go_wp2_with fail
 refine HSA.mono ?_
 rintro e w11 ⟨rfl,c11,f11⟩
 go_wp2_with fail
 go_ret
 rw[HCc]
 obtain⟨h2,hmi,hr,hta,hBt,htv,-,-,-,-,-,-⟩:=HF.out
 exact⟨rfl,step_done HH hbi hmi HX h2 HCc hr h8 (by rw[qu (by rw[HBs.1,HBs.2.1];rfl)];exact Z10) c11 HI10 hro'.out f11⟩
def Us:List TypeId:=103::112::184::145::153::57::Ts
theorem AH (s:M.Srv)(i:Nat):(s.pick i).events.length<=s.events.length+2/\(s.pick i).ag.length=s.ag.length:=by
 unfold M.Srv.pick
 split
 ·exact⟨by omega,rfl⟩
 split
 ·exact⟨by omega,rfl⟩
 split
 ·split
  ·exact⟨by omega,rfl⟩
  simp only[]
  split<;>simp
 split
 ·simp only[]
  split
  all_goals
   split<;>simp
 simp
theorem Fq {w:World}{B xp:Nat}{room:Int}{b:Blk}{who:Int}{m:M.bT}{x:Cx}(h:db w B xp room b who m x):∀ y,y∈b.all->∃ t,t∈Us/\cB w y=some t:=by
 intro y hy
 simp only[Blk.all,List.mem_cons] at hy
 rcases hy with rfl|rfl|rfl|rfl|hy
 ·exact⟨_,by simp[Us],h.cell.ty⟩
 ·exact⟨_,by simp[Us],h.ka.ty⟩
 ·exact⟨_,by simp[Us],Holds.ty h.inp⟩
 ·exact⟨_,by simp[Us],Holds.ty h.fK⟩
 by_cases e:m.state=2
 ·obtain⟨ta,h1,_,_,vo,vi,h4⟩:=h.ta e
  rw[h1] at hy
  simp at hy
  subst hy
  exact⟨_,by simp[Us],h4.cell.ty⟩
 rw[h.nta e] at hy
 simp at hy
theorem fg.fin {w w':World}{B g xp i:Nat}{k:Cf}{bs:List Blk}{s:M.Srv}{vc ve:Value}{b:Blk}{m:M.bT}{x:Cx}(h:ft w B g xp k bs s vc ve)(hx:db w B xp k.room b i m x)(h':fg w B g xp i k s vc b w'):dx w' B g xp k (s.pick i)/\FrX B Us [] w w':=by
 obtain⟨bs',ve',h1,h2⟩:=h'
 have h3:FrX B Us (g::b.all) w w':=(h2.mono (Ts:=Us) (λt ht=>.tail _ (.tail _ (.tail _ (.tail _ (.tail _ ht))))) (λ_ h=>h))
 refine⟨⟨bs',vc,ve',h1⟩,h3.jY λz hz=>.inr (.inr ?_)⟩
 rcases List.mem_cons.1 hz with rfl|hz
 ·exact⟨_,by simp[Us],h.cell.ty⟩
 exact Fq hx z hz
theorem rL (w:World)(B g xp i:Nat)(k:Cf)(s:M.Srv)(h:dx w B g xp k s)(hG:Sh.Gl w)(hB4:4<=B)(hi:i<s.ag.length)(hm:M.gZ s i=true)(hr0:20006<=k.room)(hr1:k.room<=100000)(hB:B<=w.heap.size)(hev:s.events.length<=90000) :
  Calls prog 20 #[.pointer (some ⟨g,0,none⟩),.int .i64 i] w λe w'=>e = .returned (.bool (s.can i))/\dx w' B g xp k (s.pick i)/\FrX B Us [] w w':=by
 obtain⟨bs,vc,ve,h⟩:=h
 have hmi:s.ag[i]? = some s.ag[i]:=List.getElem?_eq_getElem hi
 generalize s.ag[i]=m at hmi
 have hib:i<bs.length:=by rw[h.len];exact hi
 have hbi:bs[i]? = some bs[i]:=List.getElem?_eq_getElem hib
 generalize bs[i]=b at hbi
 obtain⟨x,hx⟩:=h.each i b m hbi hmi
 unfold M.gZ at hm
 rw[hmi] at hm
 simp only[Bool.and_eq_true] at hm
 have hmc:=A8 hm.2
 cases hc:s.can i
 ·exact(hc ▸ Db w B g xp i k bs s vc ve b m x h hbi hmi hx hmc hr0 hr1 hc).mono λe w' q=>⟨q.1,q.2.fin h hx⟩
 rcases hmc.st with⟨e,_⟩|⟨e,_⟩|⟨e,_⟩
 ·exact(hc ▸ jJ w B g xp i k bs s vc ve b m x h hbi hmi hx hmc hm.1 hr0 hr1 hc e hB hev hG hB4).mono λe w' q=>⟨q.1,q.2.fin h hx⟩
 ·exact(hc ▸ xL w B g xp i k bs s vc ve b m x h hbi hmi hx hmc hr0 hr1 hc e hB hev).mono λe w' q=>⟨q.1,q.2.fin h hx⟩
 exact(hc ▸ AG w B g xp i k bs s vc ve b m x h hbi hmi hx hmc hr0 hr1 e hB hev).mono λe w' q=>⟨q.1,q.2.fin h hx⟩
theorem eK (w:World)(B g xp i:Nat)(k:Cf)(s:M.Srv)(m:M.bT)(h:dx w B g xp k s)(hmi:s.ag[i]? = some m) :
  Calls prog 21 #[.pointer (some ⟨g,0,none⟩),.int .i64 i] w λe w'=>e = .returned (.int .i64 m.state)/\w=w':=by
 obtain⟨bs,vc,ve,h⟩:=h
 have hib:i<bs.length:=by rw[h.len];exact(List.getElem?_eq_some_iff.1 hmi).1
 have hbi:bs[i]? = some bs[i]:=List.getElem?_eq_getElem hib
 generalize bs[i]=b at hbi
 obtain⟨x,hx⟩:=h.each i b m hbi hmi
 have HA:=hid (qF w B g i k s.core xp vc ve bs b h.cell h.ag hbi)
 have d0:=hx.cell.cell 0
 simp[bA] at d0
 have hbl:=hx.cell.lt
 generalize m.state=st at *
 clear h hx hmi
 go_enter func21,ntmps21
 go_wp2_with fail
 refine HA.mono ?_
 rintro e w1 ⟨rfl,rfl⟩
 go_wp2_with fail
 go_ret
 exact⟨rfl,rfl⟩
theorem oF (m:M.bT)(q:List M.Req):kB m++En.bytesOf (q.flatMap En.bU)=kB { m with todo:=m.todo++q }:=by
 unfold kB
 rw[List.flatMap_append]
 exact En.fe _ _
theorem Ad (w:World)(B g xp i:Nat)(k:Cf)(s:M.Srv)(m:M.bT)(q:List M.Req)(h:dx w B g xp k s)(hmi:s.ag[i]? = some m)(h4:m.state≠4)(hr0:0<=k.room)(hr1:k.room<=100000)(hs:((kB { m with todo:=m.todo++q }).size:Int)<=k.room) :
  Calls prog 39 #[.pointer (some ⟨g,0,none⟩),.int .i64 i,.string (En.bytesOf (q.flatMap En.bU))] w λe w'=>e = .returned (.bool true)/\dx w' B g xp k (s.send i q)/\FrX B Us [] w w':=by
 obtain⟨bs,vc,ve,h⟩:=h
 have hib:i<bs.length:=by rw[h.len];exact(List.getElem?_eq_some_iff.1 hmi).1
 have hbi:bs[i]? = some bs[i]:=List.getElem?_eq_getElem hib
 generalize bs[i]=b at hbi
 obtain⟨x,hx⟩:=h.each i b m hbi hmi
 have HA:=hid (qF w B g i k s.core xp vc ve bs b h.cell h.ag hbi)
 have HF:=hid (Se.BI w b.se b.pi _ (kB m) (En.bytesOf (q.flatMap En.bU)) _ k.room hx.ka hx.inp hr0 hr1 (by rw[oF];exact hs))
 rw[oF] at HF
 have d0:=hx.cell.cell 0
 have d1:=hx.cell.cell 1
 simp[bA] at d0 d1
 have hst:(m.state != 4)=true:=by simpa using h4
 have hst0:¬ m.state=4:=h4
 have hbl:=hx.cell.lt
 have HH:=hid h
 have HX:=hid hx
 have HM:=hid hmi
 generalize En.bytesOf (q.flatMap En.bU)=sent at *
 obtain⟨st,hst'⟩:∃ st,m.state=st:=⟨_,rfl⟩
 rw[hst'] at d0 hst hst0
 clear h hx hmi h4 hst' hs
 go_enter func39,ntmps39
 go_wp2_with fail
 refine HA.mono ?_
 rintro e w1 ⟨rfl,rfl⟩
 go_wp2_with fail
 refine HF.mono ?_
 rintro e w2 ⟨rfl,p2,f2⟩
 have P2:=hid p2
 have F2:=hid f2
 clear p2 f2
 go_wp2_with fail
 go_ret
 have hx:=HX.out
 have h:=HH.out
 have x2:FrX B [145] [] w w2:=FrX.aB F2 (by simpa using hx.bpi) (λy hy=>⟨145,by simp,by simp at hy;subst hy;exact Holds.ty hx.inp⟩)
 have f3:FrX B [] [b.pi] w w2:=FrX.bY F2 (by simpa using hx.bpi)
 have hn:∀ {y t:Nat} {cs:Array Value},Holds w y t cs->t≠145->Holds w2 y t cs:=λhy ht=>hy.frx x2 (by simpa using ht) (by simp)
 refine⟨rfl,⟨bs.set i b,vc,ve,?_⟩,x2.mono (by decide) (λ_ h=>h)⟩
 unfold M.Srv.send
 rw[HM]
 refine h.dh (b':=b) hbi HM hx rfl ⟨rfl,rfl⟩ (hn h.cell (by decide)) (h.core.frx x2 (by decide)) (x':=x) ?_ (h.evs.frx x2 (by decide) (by decide) (by decide)) f3 (by simp) (λy hy=>.inr (.inl (by simp at hy;subst hy;simp[Blk.all]))) (λy hy=>.inl hy)
 refine⟨hx.bc,hx.bse,hx.bpi,hx.bpo,hn hx.cell (by decide),hn hx.ka (by decide),P2,Holds.fr hx.fK F2 (by have:=h.npo i b hbi;simpa using this),λe=>?_,λe=>?_,hx.nta,hx.tk,λe=>?_⟩
 ·obtain⟨ta,h1,h2,h3,vo,vi,h4⟩:=hx.ta e
  exact⟨ta,h1,h2,h3,vo,vi,h4.frx x2 (by decide) (by decide) (by decide)⟩
 ·obtain⟨h1,h2,h3,h4,h5⟩:=hx.dh e
  exact⟨h1,h2,h3,h4.bf x2 (by decide),h5⟩
 obtain⟨h1,h2,h3,h4,h5⟩:=hx.ans e
 exact⟨h1,h2,h3.bf x2 (by decide),h4,h5⟩
theorem nc (w:World)(B g xp i:Nat)(k:Cf)(s:M.Srv)(m:M.bT)(n:Int)(h:dx w B g xp k s)(hmi:s.ag[i]? = some m)(hn:((eF m).size:Int)<=n)(hz:(eF m).size<=100000) :
  Calls prog 18 #[.pointer (some ⟨g,0,none⟩),.int .i64 i,.int .i64 n] w λe w'=>e = .returned (.string (eF m))/\dx w' B g xp k { s with ag:=s.ag.set i { m with out:=[] } }/\FrX B Us [] w w':=by
 obtain⟨bs,vc,ve,h⟩:=h
 have hib:i<bs.length:=by rw[h.len];exact(List.getElem?_eq_some_iff.1 hmi).1
 have hbi:bs[i]? = some bs[i]:=List.getElem?_eq_getElem hib
 generalize bs[i]=b at hbi
 obtain⟨x,hx⟩:=h.each i b m hbi hmi
 have HA:=hid (qF w B g i k s.core xp vc ve bs b h.cell h.ag hbi)
 have htk:Pi.gD n (eF m)=(eF m).size:=by unfold Pi.gD;omega
 have HT:=hid (Pi.qT w b.po k.room (eF m) false n hx.fK (by omega) (eF m) ByteArray.empty (by rw[htk];simp) (by rw[htk];simp))
 have d2:=hx.cell.cell 2
 simp[bA] at d2
 have hbl:=hx.cell.lt
 have HH:=hid h
 have HX:=hid hx
 have HM:=hid hmi
 clear h hx hmi hn hz htk
 go_enter func18,ntmps18
 go_wp2_with fail
 refine HA.mono ?_
 rintro e w1 ⟨rfl,rfl⟩
 go_wp2_with fail
 refine HT.mono ?_
 rintro e w2 ⟨rfl,p2,f2⟩
 have P2:=hid p2
 have F2:=hid f2
 clear p2 f2
 go_wp2_with fail
 go_ret
 have hx:=HX.out
 have h:=HH.out
 have x2:FrX B [145] [] w w2:=FrX.aB F2 (by simpa using hx.bpo) (λy hy=>⟨145,by simp,by simp at hy;subst hy;exact Holds.ty hx.fK⟩)
 have f3:FrX B [] [b.po] w w2:=FrX.bY F2 (by simpa using hx.bpo)
 have hn:∀ {y t:Nat} {cs:Array Value},Holds w y t cs->t≠145->Holds w2 y t cs:=λhy ht=>hy.frx x2 (by simpa using ht) (by simp)
 refine⟨rfl,⟨bs.set i b,vc,ve,?_⟩,x2.mono (by decide) (λ_ h=>h)⟩
 refine h.dh (b':=b) hbi HM hx rfl ⟨rfl,rfl⟩ (hn h.cell (by decide)) (h.core.frx x2 (by decide)) (x':=x) ?_ (h.evs.frx x2 (by decide) (by decide) (by decide)) f3 (by simp) (λy hy=>.inr (.inl (by simp at hy;subst hy;simp[Blk.all]))) (λy hy=>.inl hy)
 refine⟨hx.bc,hx.bse,hx.bpi,hx.bpo,hn hx.cell (by decide),hn hx.ka (by decide),Holds.fr hx.inp F2 (by have:=h.npo i b hbi;simp;exact Ne.symm this),?_,λe=>?_,λe=>?_,hx.nta,hx.tk,λe=>?_⟩
 ·have e:eF { m with out:=[] }=ByteArray.empty:=rfl
  rw[e]
  exact P2
 ·obtain⟨ta,h1,h2,h3,vo,vi,h4⟩:=hx.ta e
  exact⟨ta,h1,h2,h3,vo,vi,h4.frx x2 (by decide) (by decide) (by decide)⟩
 ·obtain⟨h1,h2,h3,h4,h5⟩:=hx.dh e
  exact⟨h1,h2,h3,h4.bf x2 (by decide),h5⟩
 obtain⟨h1,h2,h3,h4,h5⟩:=hx.ans e
 exact⟨h1,h2,h3.bf x2 (by decide),h4,h5⟩
def kOf (c:M.Cfg):Cf:=⟨c.ag,c.start,c.room,c.dD.toNat⟩
def cellsOf (c:M.Cfg):Array Value:=#[.int .i64 c.ag,.int .i64 c.start,.int .i64 c.room,.int .i64 c.dD,.int .i64 c.bQ,.int .i64 c.ah,.int .i64 c.bytes,.int .i64 c.log]
theorem dE (w:World)(a b:Int)(h1:1<=a)(h2:a<=b):Calls prog 128 #[.int .i64 a,.int .i64 b] w λe w'=>e = .returned (.bool true)/\w=w':=by
 go_enter func128,ntmps128
 go_wp2_with fail
 go_ret
 simp[h1,h2]
theorem dM (w:World)(a b c d:Int)(a0:1<=a)(a1:a<=8)(b0:1<=b)(b1:b<=16)(c0:1<=c)(c1:c<=1048576)(d0:1<=d)(d1:d<=64):cA 98 #[.agg #[.int .i64 a,.int .i64 b,.int .i64 c,.int .i64 d]] w (.int .i64 0):=by
 have H1:=hid (λW=>dE W a 8 a0 a1)
 have H2:=hid (λW=>dE W b 16 b0 b1)
 have H3:=hid (λW=>dE W c 1048576 c0 c1)
 have H4:=hid (λW=>dE W d 64 d0 d1)
 go_enter func98,ntmps98
 go_wp2_with fail
 refine(H1 _).mono ?_
 rintro e w1 ⟨rfl,rfl⟩
 go_wp2_with fail
 refine(H2 _).mono ?_
 rintro e w1 ⟨rfl,rfl⟩
 go_wp2_with fail
 refine(H3 _).mono ?_
 rintro e w1 ⟨rfl,rfl⟩
 go_wp2_with fail
 refine(H4 _).mono ?_
 rintro e w1 ⟨rfl,rfl⟩
 go_wp2_with fail
 go_ret
 exact⟨rfl,rZ.alloc _⟩
theorem dN (w:World)(c:M.Cfg)(O:c.Ok):cA 64 #[.agg (cellsOf c)] w (.int .i64 0):=by
 obtain⟨n,s,r,h,a,b,d,l⟩:=c
 obtain⟨n0,n1,s0,s1,r0,r1,h0,h1,a0,a1,b0,b1,d0,d1,l0,l1⟩:=O
 simp only[cellsOf] at *
 have H1:=hid (λW=>dM W a b d l a0 a1 b0 b1 d0 d1 l0 l1)
 have q1:¬ n<1:=by omega
 have q2:¬ 12<n:=by omega
 have q3:¬ s<0:=by omega
 have q4:¬ r<20006:=by omega
 have q5:¬ 40000<r:=by omega
 have q6:¬ h<1:=by omega
 have q7:¬ 16<h:=by omega
 clear n0 n1 s0 s1 r0 r1 h0 h1 a0 a1 b0 b1 d0 d1 l0 l1
 go_enter func64,ntmps64
 go_wp2_with fail
 refine uu (H1 _) λw1 f1=>?_
 go_wp2_with fail
 go_ret
 exact⟨rfl,(rZ.alloc _).trans f1⟩
theorem Aa {k:ByteArray}{n:Nat}(h:1<=n):Rk.cD k n<n:=by
 unfold Rk.cD
 have:=Int.emod_lt_of_pos (Fv.cK k.data.toList) (show (0:Int)<n by omega)
 have:=Int.emod_nonneg (Fv.cK k.data.toList) (show (n:Int)≠0 by omega)
 omega
theorem BN (w:World)(B:Nat)(hB:B<=w.heap.size)(c:M.Cfg)(O:c.Ok):Calls prog 35 #[.agg (cellsOf c)] w λe w'=>∃ xp,e = .returned (.tuple #[.pointer (some ⟨xp,0,none⟩),.int .i64 0])/\w.heap.size<=xp/\aF w' B xp (kOf c) c.core/\Fr [] w w':=by
 have HM:=hid (λW=>dN W c O)
 have O':=O
 obtain⟨cn,st,rm,sh',co,ca,mb,lg⟩:=c
 obtain⟨n0,n1,s0,s1,r0,r1,h0,h1,-⟩:=O'
 simp only[cellsOf] at *
 obtain⟨sh,rfl⟩:∃ n:Nat,sh'=n:=⟨sh'.toNat,by omega⟩
 have hsn:1<=sh:=by omega
 have hsm:sh<=16:=by omega
 have HR:=hid (λW (hW:Fr [] w W)=>Rk.bZ W B sh (Rk.cD key sh) hsn hsm (Aa hsn) (Nat.le_trans hB hW.size))
 have HO:=hid (λW=>Ob.bZ W B)
 have HH:=hid (λW=>Hb.yF W B)
 have HK:=hid (λW=>Ck.bZ W B)
 clear n0 n1 s0 s1 r0 r1 h0 h1 hsn hsm O
 go_enter func35,ntmps35
 go_wp2_with fail
 refine uu (HM _) λw1 f1=>?_
 obtain⟨z,hz⟩:∃ z,w.heap.size=z:=⟨_,rfl⟩
 have fz:Fr [] w w1:=(rZ.alloc _).trans f1
 have HZ:=hid (show Holds w1 z 25 #[.int .i64 cn,.int .i64 st,.int .i64 rm,.int .i64 (sh:Nat),.int .i64 co,.int .i64 ca,.int .i64 mb,.int .i64 lg] by rw[<-hz];exact(Holds.new w _ _).fr f1 (by simp))
 have HC:=hid (λW (f:Fr [] w1 W)=>(show W.cell? ⟨z,0,none⟩=some (.int .i64 cn)/\W.cell? ⟨z,1,none⟩=some (.int .i64 st)/\W.cell? ⟨z,2,none⟩=some (.int .i64 rm)/\W.cell? ⟨z,3,none⟩=some (.int .i64 ((sh:Nat):Int))/\W.cell? ⟨z,4,none⟩=some (.int .i64 co)/\W.cell? ⟨z,5,none⟩=some (.int .i64 ca)/\W.cell? ⟨z,6,none⟩=some (.int .i64 mb)/\W.cell? ⟨z,7,none⟩=some (.int .i64 lg) from by
  have H:=HZ.fr f (by simp)
  exact⟨H.cell 0,H.cell 1,H.cell 2,H.cell 3,H.cell 4,H.cell 5,H.cell 6,H.cell 7⟩))
 have hzl:=HZ.lt
 have hS:=HC.out w1 rZ
 obtain⟨c0,c1,c2,c3,c4,c5,c6,c7⟩:=hS
 simp only[hz]
 go_upto_region 4 with fail
 have HFz:=hid fz
 clear fz f1
 go_region_held3 (λw'=>w'.cell? ⟨z,0,none⟩=some (.int .i64 cn)/\w'.cell? ⟨z,1,none⟩=some (.int .i64 st)/\w'.cell? ⟨z,2,none⟩=some (.int .i64 rm)/\w'.cell? ⟨z,3,none⟩=some (.int .i64 ((sh:Nat):Int))/\w'.cell? ⟨z,4,none⟩=some (.int .i64 co)/\w'.cell? ⟨z,5,none⟩=some (.int .i64 ca)/\w'.cell? ⟨z,6,none⟩=some (.int .i64 mb)/\w'.cell? ⟨z,7,none⟩=some (.int .i64 lg)) (first|go_keep|exact hS|(simpa[go_sem] using hS))
  (first
   | (go_at_call 65;refine(HR _ (by first|exact HFz|exact HFz.drewN _|exact HFz.drew)).mono ?_;rintro e wr ⟨rg,rfl,hr,qr,fr'⟩;have fr:Fr [] w1 wr:=(by first|exact fr'|exact(rZ.drewN _).trans fr'|exact(rZ.drew).trans fr');have gr:Fr [] w1 wr:=fr;have hS:=HC.out wr gr)
   | (go_at_call 66;refine(HO _).mono ?_;rintro e wo ⟨og,rfl,ho,qo,fo'⟩;have fo:Fr [] wr wo:=(by first|exact fo'|exact(rZ.drewN _).trans fo'|exact(rZ.drew).trans fo');have go:Fr [] w1 wo:=gr.trans fo;have hS:=HC.out wo go)
   | (go_at_call 67;refine(HH _).mono ?_;rintro e wh ⟨hg,rfl,hh,qh,fh'⟩;have fh:Fr [] wo wh:=(by first|exact fh'|exact(rZ.drewN _).trans fh'|exact(rZ.drew).trans fh');have gh:Fr [] w1 wh:=go.trans fh;have hS:=HC.out wh gh)
   | (go_at_call 68;refine(HK _).mono ?_;rintro e wk ⟨kg,rfl,hk,qk,fk'⟩;have fk:Fr [] wh wk:=(by first|exact fk'|exact(rZ.drewN _).trans fk'|exact(rZ.drew).trans fk');have gk:Fr [] w1 wk:=gh.trans fk;have hS:=HC.out wk gk))
 have Hr:=hid (show B<=rg/\Rk.fy wk B rg sh (Rk.cD key sh) [] from ⟨Nat.le_trans (Nat.le_trans hB HFz.size) (by simpa using hr),((qr.fr0 fo).fr0 fh).fr0 fk⟩)
 have Ho:=hid (show B<=og/\Ob.aQ wk B og [] from ⟨Nat.le_trans (Nat.le_trans hB HFz.size) (Nat.le_trans gr.size (by simpa using ho)),(qo.fr0 fh).fr0 fk⟩)
 have Hh:=hid (show B<=hg/\Hb.HAt wk B hg [] from ⟨Nat.le_trans (Nat.le_trans hB HFz.size) (Nat.le_trans go.size (by simpa using hh)),qh.fr0 fk⟩)
 have Hk:=hid (show B<=kg/\Ck.cJ wk B kg 0 [] from ⟨Nat.le_trans (Nat.le_trans hB HFz.size) (Nat.le_trans gh.size (by simpa using hk)),qk⟩)
 have HF:=hid (show Fr [] w wk from HFz.trans gk)
 clear qr qo qh qk
 go_wp2_with fail
 go_ret2
 refine⟨_,rfl,HF.size,⟨.slice none 0 0,rg,og,hg,kg,Hr.1,Ho.1,Hh.1,Hk.1,Holds.new _ _ _,Own.nil _ _ _ _,Hr.2.fr0 (rZ.alloc _),Ho.2.fr0 (rZ.alloc _),Hh.2.fr0 (rZ.alloc _),Hk.2.fr0 (rZ.alloc _)⟩,HF.alloc _⟩
theorem bZ (w:World)(B:Nat)(hB:B<=w.heap.size)(c:M.Cfg)(O:c.Ok):Calls prog 16 #[.agg (cellsOf c)] w λe w'=>∃ g xp,e = .returned (.tuple #[.pointer (some ⟨g,0,none⟩),.int .i64 0])/\w.heap.size<=g/\dx w' B g xp (kOf c) ⟨c.core,[],[]⟩/\Fr [] w w':=by
 have HN:=hid (λW (h:B<=W.heap.size)=>BN W B h c O)
 have HB:=hid hB
 have h0:=O.h0
 obtain⟨cn,st,rm,sh',co,ca,mb,lg⟩:=c
 simp only[cellsOf] at *
 obtain⟨sh,rfl⟩:∃ n:Nat,sh'=n:=⟨sh'.toNat,by omega⟩
 clear O h0
 go_enter func16,ntmps16
 go_upto_region 1 with fail
 obtain⟨w1,hw1⟩:∃ W,W=w.alloc (.cells #[.int .i64 cn,.int .i64 st,.int .i64 rm,.int .i64 (sh:Nat),.int .i64 co,.int .i64 ca,.int .i64 mb,.int .i64 lg] 25):=⟨_,rfl⟩
 rw[<-hw1]
 obtain⟨z,hz⟩:∃ z,w.heap.size=z:=⟨_,rfl⟩
 have F1:Fr [] w w1:=by rw[hw1];exact rZ.alloc _
 have HZ:=hid (show Holds w1 z 25 #[.int .i64 cn,.int .i64 st,.int .i64 rm,.int .i64 (sh:Nat),.int .i64 co,.int .i64 ca,.int .i64 mb,.int .i64 lg] by rw[<-hz,hw1];exact Holds.new w _ _)
 obtain⟨c0,c1,c2,c3,c4,c5,c6,c7⟩:=HZ.cs8
 simp at c0 c1 c2 c3 c4 c5 c6 c7
 have HNw:=hid (HN w1 (Nat.le_trans hB F1.size))
 have HF1:=hid F1
 simp only[hz]
 clear F1 hw1
 go_wp2_with fail
 refine HNw.mono ?_
 rintro e w2 ⟨xp,rfl,hxp,hc,f2⟩
 have H2:=HZ.fr f2 (by simp)
 obtain⟨d0,d1,d2,d3,d4,d5,d6,d7⟩:=H2.cs8
 simp at d0 d1 d2 d3 d4 d5 d6 d7
 have HC:=hid hc
 have HX:=hid (Nat.le_trans HF1.size hxp)
 have HF:=hid (HF1.trans f2)
 clear H2 hc f2 hxp c0 c1 c2 c3 c4 c5 c6 c7
 go_wp2_with fail
 go_ret2
 refine⟨_,xp,rfl,HF.size,⟨[],.slice none 0 0,.slice none 0 0,Nat.le_trans HB HF.size,Nat.le_trans HB HX,Holds.new _ _ _,HC.fr0 (rZ.alloc _),rfl,Own.nil _ _ _ _,by simp,by simp,?_,by simp⟩,HF.alloc _⟩
 exact⟨[],by simp,Own.nil _ _ _ _,by simp⟩
def Uo:List TypeId:=104::Us
def cx0:Cx:=⟨.pointer none,0,0,0,{ kind:=0 },.slice none 0 0,0,⟨#[]⟩,{ kind:=0 },.slice none 0 0,false⟩
structure CD (w w4:World)(B g xp:Nat)(k:Cf)(bs:List Blk)(s:M.Srv)(b:Blk)(vc v4 ve:Value):Prop where
 srv:Holds w4 g 103 (dH k s.core xp vc ve).toArray
 own:Own w4 B 104 1 v4 (bs++[b]).length (flat cp (bs++[b]))
 old:∀ (i:Nat) b m,bs[i]? = some b->s.ag[i]? = some m->CF w4 B xp k.room b i m
 new:db w4 B xp k.room b s.ag.length {} cx0
 core:aF w4 B xp k s.core
 evs:Ev.dz w4 B ve s.events
 fr:FrX B [104] [] w w4
theorem yc {w W W' w4:World}{B g xp:Nat}{k:Cf}{bs:List Blk}{s:M.Srv}{b:Blk}{ac:Option Addr}{cc j:Nat}{v4 ve:Value}{own4:Option Nat}{news:List Value}(h:ft w B g xp k bs s (.slice ac j cc) ve)(hj:bs.length=j)(f:Fr [] w W)(hB:B<=w.heap.size)
  (hcon:Holds W b.c 112 (bA b 1 cx0).toArray) (hse:Se.eO W b.se b.pi ⟨#[]⟩ 0) (hpi:Pi.bw W b.pi k.room ⟨#[]⟩ false) (hpo:Pi.bw W b.po k.room ⟨#[]⟩ false) (h1:w.heap.size<=b.c) (h2:w.heap.size<=b.se) (h3:w.heap.size<=b.pi) (h4:w.heap.size<=b.po) (ht:b.ta=none)
  (f':Fr [] W W') (hn:news=cp b) (hs:Sl w4 104 1 v4 (j+1) (flat cp bs++news) own4) (hf:Fr (ay (.slice ac j cc)).toList W' w4) (ho:own4=ay (.slice ac j cc)∨∃ g,own4=some g/\W'.heap.size<=g) (hm:0<1->∃ g,own4=some g) :
  CD w w4 B g xp k bs s b (.slice ac j cc) v4 ve:=by
 have hown:=Own.fr0 h.ag (f.trans f')
 have hb:∀ y,y∈(ay (.slice ac j cc)).toList->cB W' y=some 104/\B<=y:=λy hy=>hown.ty (by simpa using hy)
 have hBW:B<=W'.heap.size:=Nat.le_trans hB (f.trans f').size
 obtain⟨oo,-⟩:=bn (B:=B) hBW (λg hg=>(hown.ty hg).2) hs ho (hm (by omega))
 have x4:FrX B [104] [] W' w4:=FrX.aB hf (λy hy=>(hb y hy).2) (λy hy=>⟨104,by simp,(hb y hy).1⟩)
 have xw:FrX B [104] [] w w4:=(FrX.aA (f.trans f')).trans x4
 have e:flat cp (bs++[b])=flat cp bs++cp b:=by rw[aP,bS]
 have hh:∀ {g t:Nat} {cs:Array Value},Holds W g t cs->t≠104->Holds w4 g t cs:=λhg ht=>(hg.fr f' (by simp)).frx x4 (by simpa using ht) (by simp)
 refine⟨h.cell.frx xw (by decide) (by simp),by rw[e,<-hn];simpa[hj] using oo,λi b m hb hm=>?_,?_,h.core.frx xw (by decide),h.evs.frx xw (by decide) (by decide) (by decide),xw⟩
 ·obtain⟨x,hx⟩:=h.each i b m hb hm
  exact⟨x,hx.frx xw (by decide) (by simp)⟩
 exact⟨Nat.le_trans hB h1,Nat.le_trans hB h2,Nat.le_trans hB h3,Nat.le_trans hB h4,hh hcon (by decide),hh hse (by decide),hh hpi (by decide),hh hpo (by decide),λe=>by simp at e,λe=>by simp at e,λ_=>ht,λe=>by simp at e,λe=>by simp at e⟩
theorem AQ {w w4:World}{B g xp:Nat}{k:Cf}{bs:List Blk}{s:M.Srv}{b:Blk}{vc v4 ve:Value}(h:ft w B g xp k bs s vc ve)(P:CD w w4 B g xp k bs s b vc v4 ve)(h1:w.heap.size<=b.c)(h2:w.heap.size<=b.se)(h3:w.heap.size<=b.pi)(h4:w.heap.size<=b.po)(ht:b.ta=none)(hpp:b.po≠b.pi) :
  dx (w4.setCell ⟨g,9,none⟩ v4) B g xp k { s with ag:=s.ag++[{}] }/\FrX B Uo [] w (w4.setCell ⟨g,9,none⟩ v4):=by
 have f:Fr [g] w4 (w4.setCell ⟨g,9,none⟩ v4):=rZ.setCell (by simp) _
 have x5:FrX B [103] [] w4 (w4.setCell ⟨g,9,none⟩ v4):=FrX.aB f (by simpa using h.bg) (λy hy=>⟨103,by simp,by simp at hy;subst hy;exact P.srv.ty⟩)
 have hlen:=h.len
 have yF:∀ y,y∈b.all->w.heap.size<=y:=λy hy=>by
  simp only[Blk.all,ht,Option.toList_none,List.mem_cons,List.not_mem_nil,or_false] at hy
  rcases hy with rfl|rfl|rfl|rfl<;>assumption
 have hold:∀ (i:Nat) b',bs[i]? = some b'->∀ y,y∈b'.all->y<w.heap.size:=λi b' hb' y hy=>by
  have hi:=(List.getElem?_eq_some_iff.1 hb').1
  rw[hlen] at hi
  obtain⟨x,hx⟩:=h.each i b' _ hb' (List.getElem?_eq_getElem hi)
  exact hx.qH y hy
 refine⟨⟨bs++[b],v4,ve,h.bg,h.bxp,by simpa[dH,ew] using P.srv.set 9 v4,P.core.frx x5 (by decide),by simp[hlen],P.own.bf x5 (by decide),?_,?_,P.evs.frx x5 (by decide) (by decide) (by decide),?_⟩,?_⟩
 ·intro i b' m hb' hm
  rcases Nat.lt_or_ge i bs.length with hi|hi
  ·rw[List.getElem?_append_left hi] at hb'
   simp only at hm
   rw[List.getElem?_append_left (by omega)] at hm
   obtain⟨x,hx⟩:=P.old i b' m hb' hm
   exact⟨x,hx.frx x5 (by decide) (by simp)⟩
  rw[List.getElem?_append_right hi] at hb'
  simp only at hm
  rw[List.getElem?_append_right (by omega)] at hm
  have hi0:i - bs.length=0:=by
   rcases Nat.eq_zero_or_pos (i - bs.length) with h0|h0
   ·exact h0
   rw[List.getElem?_eq_none (by simp;omega)] at hb'
   cases hb'
  have hi1:i - s.ag.length=0:=by omega
  rw[hi0] at hb'
  rw[hi1] at hm
  simp at hb' hm
  subst hb'
  subst hm
  have hii:i=s.ag.length:=by omega
  subst hii
  exact⟨cx0,P.new.frx x5 (by decide) (by simp)⟩
 ·intro i j b1 b2 hij hb1 hb2 y hy
  have key:∀ (i:Nat) b1,(bs++[b])[i]? = some b1->(i<bs.length/\bs[i]? = some b1)∨(i=bs.length/\b1=b):=λi b1 hb1=>by
   rcases Nat.lt_or_ge i bs.length with hi|hi
   ·rw[List.getElem?_append_left hi] at hb1
    exact .inl ⟨hi,hb1⟩
   rw[List.getElem?_append_right hi] at hb1
   rcases Nat.eq_zero_or_pos (i - bs.length) with h0|h0
   ·rw[h0] at hb1
    simp at hb1
    exact .inr ⟨by omega,hb1.symm⟩
   rw[List.getElem?_eq_none (by simp;omega)] at hb1
   cases hb1
  rcases key i b1 hb1 with⟨_,e1⟩|⟨e1,e1'⟩<;>rcases key j b2 hb2 with⟨_,e2⟩|⟨e2,e2'⟩
  ·exact h.apart i j b1 b2 hij e1 e2 y hy
  ·intro hy2
   subst e2'
   have:=yF y hy2
   have:=hold i b1 e1 y hy
   omega
  ·intro hy2
   subst e1'
   have:=yF y hy
   have:=hold j b2 e2 y hy2
   omega
  omega
 ·intro i b' hb'
  rcases Nat.lt_or_ge i bs.length with hi|hi
  ·rw[List.getElem?_append_left hi] at hb'
   exact h.npo i b' hb'
  rw[List.getElem?_append_right hi] at hb'
  rcases Nat.eq_zero_or_pos (i - bs.length) with h0|h0
  ·rw[h0] at hb'
   simp at hb'
   subst hb'
   exact hpp
  rw[List.getElem?_eq_none (by simp;omega)] at hb'
  cases hb'
 exact(P.fr.mono (by decide) (λ_ h=>h)).trans (x5.mono (by decide) (λ_ h=>h))
theorem tj {P:Program}{ops:Array Oper}{Q:Exit->Act->World->Prop}{md:Region.Mode}{S:World->Prop}(i:Nat){d:Nat}{o1 o2 o3 o4 o5}{v:Value}{fuel:Nat}{listed:Array Bool}{l:List Value}{ds}{w:World}(hS:S w)(hi:ops[i]? = some ⟨some d,o1,o2,o3,o4,o5⟩:=by rfl)(hq:∀ c a w,Q (.panic c) (a.put (some d) v) w->Q (.panic c) a w:=by exact λ_ _ _ h=>h)(hk:(Region.noSelect ops&&Region.free md ops listed i&&(Region.ready md ops listed).contains i)=true:=by kernel_rfl)(hw:Region.wanted ⟨some d,o1,o2,o3,o4,o5⟩ (yielded ops l.toArray)=true:=by rfl)(hy:∀ w,S w->(execOp (Act.eval { tmps:=l.toArray,defers:=ds }) ⟨some d,o1,o2,o3,o4,o5⟩).run P w = .ok (.value v) w:=by (intro w h;(try dsimp only at h);go_simp<;>with_reducible rfl))(h:wpAnyH P md ops Q S fuel (listed.setIfInBounds i true) { tmps:=(l.set d v).toArray,defers:=ds } w):wpAnyH P md ops Q S (fuel+1) listed { tmps:=l.toArray,defers:=ds } w:=by
 refine tk i hS hi hq hk hw hy ?_
 rw[pt]
 exact h
theorem nK (w:World)(B g xp:Nat)(k:Cf)(s:M.Srv)(h:dx w B g xp k s)(hn:(s.ag.length:Int)<k.ag)(hk:k.ag<=1000)(hst:∀ m,m∈s.ag->m.state≠4)(hr0:0<=k.room)(hB:B<=w.heap.size) :
  Calls prog 38 #[.pointer (some ⟨g,0,none⟩)] w λe w'=>e = .returned (.tuple #[.int .i64 s.ag.length,.int .i64 0])/\dx w' B g xp k { s with ag:=s.ag++[{}] }/\FrX B Uo [] w w':=by
 obtain⟨bs,vc,ve,h⟩:=h
 obtain⟨i3,hi,hz0,hz1,hz2⟩:=info_parts Gf
 obtain⟨ac,cc',hvc⟩:=h.ag.form
 subst hvc
 obtain⟨n,hnl⟩:∃ n,s.ag.length=n:=⟨_,rfl⟩
 have hbl:=h.len
 rw[hnl] at hbl hn
 have c0:=h.cell.cell 0
 have c2:=h.cell.cell 2
 have c9:=h.cell.cell 9
 have c11:=h.cell.cell 11
 simp[dH,ew,hbl] at c0 c2 c9 c11
 have hgl:=h.cell.lt
 have hge:¬ k.ag<=(n:Int):=by omega
 have HE:=hid (λ(i:Nat) (hi:i<n)=>(show ∃ b st,bs[i]? = some b/\st≠4/\w.cell? ⟨b.c,0,none⟩=some (.int .i64 st)/\b.c<w.heap.size from by
  have hi2:i<bs.length:=by omega
  have hi3:i<s.ag.length:=by omega
  obtain⟨x,hx⟩:=h.each i bs[i] s.ag[i] (List.getElem?_eq_getElem hi2) (List.getElem?_eq_getElem hi3)
  have d:=hx.cell.cell 0
  simp[bA] at d
  exact⟨bs[i],s.ag[i].state,List.getElem?_eq_getElem hi2,hst _ (List.getElem_mem hi3),d,hx.cell.lt⟩))
 have HH:=hid h
 have HL:=hid (And.intro hnl hbl)
 have HI:=hid (And.intro hi (And.intro hz0 (And.intro hz1 hz2)))
 clear h hst hnl hbl hi hz0 hz1 hz2
 go_enter func38,ntmps38
 go_wp2_with fail
 go_loopw [4,16] (λa i wr=>∃ j:Nat,j<=n/\a = .int .i64 j/\i = .int .i64 j/\wr=w) (λ_ i _=>n - (intOf i).toNat)
 case atStart=>exact⟨0,Nat.zero_le _,rfl,rfl,rfl⟩
 obtain⟨j,hj,rfl,rfl,rfl⟩:=hrel
 by_cases hlt:j<n
 ·obtain⟨b,st,hbi,hs4,d0,hcl⟩:=HE.out j hlt
  obtain⟨gc,cc,hgc,hvc,hrc,hgcl,hcc⟩:=HH.ag.cell lU rfl hbi
  simp at hvc
  have m0:=hcc 0 _ (by omega) rfl
  simp at m0
  have hj1:(j:Int)<(n:Int):=by omega
  have hs4':(st != 4)=true:=by simpa using hs4
  have hw:IntKind.i64.wrap ((j:Int)+1)=(j:Int)+1:=IntWalk.i64_in _ (by omega)
  go_wp2_with fail
  exact⟨⟨j+1,by omega,by simp,by simp,trivial⟩,by simp[intOf];omega⟩
 have hj1:¬ (j:Int)<(n:Int):=by omega
 have:j=n:=by omega
 subst this
 have HC:=hid (λW (f:Fr [] wr W)=>(show W.cell? ⟨g,2,none⟩=some (.int .i64 k.room)/\W.cell? ⟨g,9,none⟩=some (.slice ac j cc')/\g<W.heap.size from by
  have H:=HH.cell.fr f (by simp)
  have e2:=H.cell 2
  have e9:=H.cell 9
  simp[dH,ew,HL.2] at e2 e9
  exact⟨e2,e9,H.lt⟩))
 have HH2:=hid (show ft wr B g xp k bs s (.slice ac j cc') ve from by have:=HH.out;rw[HL.2] at this;exact this)
 have HOw:=hid (show Own wr B 104 1 (.slice ac j cc') j (flat cp bs) from by have:=HH2.ag;rw[HL.2] at this;exact this)
 have HS:=hid (λW=>Se.bZ W k.room hr0)
 have HPi:=hid (λW=>Pi.bZ k.room W)
 rw[Int.max_eq_left hr0] at HPi
 clear HE HH
 have hj1000:j<=1000:=by omega
 go_wp2_with fail
 have hS:=c2
 refine wp_region_noPanic ?_
 refine wp_region_held_drew (S:=(λw'=>w'.cell? ⟨g,2,none⟩=some (.int .i64 k.room))) (by kernel_rfl) ?_ (λhh=>?_)
 ·(first|go_keep|exact hS|(simpa[go_sem] using hS))
 refine tj 0 hh (h:=?_)
 try simp only[pt,pn,List.set]
 refine tj 1 hh (h:=?_)
 try simp only[pt,pn,List.set]
 refine tj 2 hh (h:=?_)
 try simp only[pt,pn,List.set]
 refine tj 3 hh (h:=?_)
 try simp only[pt,pn,List.set]
 refine tj 5 hh (h:=?_)
 try simp only[pt,pn,List.set]
 refine tj 6 hh (h:=?_)
 try simp only[pt,pn,List.set]
 refine tj 7 hh (h:=?_)
 try simp only[pt,pn,List.set]
 refine tj 8 hh (h:=?_)
 try simp only[pt,pn,List.set]
 refine tj 9 hh (h:=?_)
 try simp only[pt,pn,List.set]
 refine tj 11 hh (h:=?_)
 try simp only[pt,pn,List.set]
 refine tj 12 hh (h:=?_)
 try simp only[pt,pn,List.set]
 refine tj 13 hh (h:=?_)
 try simp only[pt,pn,List.set]
 refine tj 14 hh (h:=?_)
 try simp only[pt,pn,List.set]
 refine tj 15 hh (h:=?_)
 try simp only[pt,pn,List.set]
 refine wpAnyH_ready (rs:=[4,10]) (by kernel_rfl) (by simp) ?_
 refine AllReadyH.cons rfl (λK hK=>?_) (AllReadyH.cons rfl (λK hK=>?_) AllReadyH.nil)
 focus
  go_simp
  refine hK.out _ _ ?_ (λhh=>?_)
  ·(first|go_keep|exact hS|(simpa[go_sem] using hS))
  clear hK K
  try simp only[pt,pn,List.set]
  refine wpAnyH_ready (rs:=[10]) (by kernel_rfl) (by simp) ?_
  refine AllReadyH.cons rfl (λK hK=>?_) AllReadyH.nil
  go_simp
  (go_at_call 69;refine(HS _).mono ?_;rintro e w2 ⟨se,si,rfl,hse,hsi,hsl,q2,p2,f2'⟩;have f2:Fr [] wr w2:=(by first|exact f2'|exact(rZ.drewN _).trans f2'|exact(rZ.drew).trans f2');obtain⟨e2,e9,egl⟩:=HC.out w2 f2;have hS:=e2)
  try go_wp2_with fail
  refine hK.out _ _ ?_ (λhh=>?_)
  ·(first|go_keep|exact hS|(simpa[go_sem] using hS))
  clear hK K
  try simp only[pt,pn,List.set]
  refine wpAnyH_ready (rs:=[16]) (by kernel_rfl) (by simp) ?_
  refine AllReadyH.cons rfl (λK hK=>?_) AllReadyH.nil
  go_simp
  (go_at_call 70;refine(HPi _).mono ?_;rintro e w3 ⟨po,rfl,hpo,p3,f3'⟩;have f3:Fr [] w2 w3:=(by first|exact f3'|exact(rZ.drewN _).trans f3'|exact(rZ.drew).trans f3');have f23:=f2.trans f3;have q23:Se.eO w3 se si ⟨#[]⟩ 0:=Holds.fr q2 f3 (by simp);have p23:Pi.bw w3 si k.room ⟨#[]⟩ false:=Holds.fr p2 f3 (by simp);obtain⟨g2,g9,ggl⟩:=HC.out w3 f23;have hS:=g2)
  try go_wp2_with fail
  refine hK.out _ _ ?_ (λhh=>?_)
  ·(first|go_keep|exact hS|(simpa[go_sem] using hS))
  clear hK K
  try simp only[pt,pn,List.set]
  refine tj 17 hh (h:=?_)
  try simp only[pt,pn,List.set]
  refine wpAnyH_ready (rs:=[18]) (by kernel_rfl) (by simp) ?_
  refine AllReadyH.cons rfl (λK hK=>?_) AllReadyH.nil
  go_simp
  refine hK.out _ _ ?_ (λhh=>?_)
  ·(first|go_keep|exact hS|(simpa[go_sem] using hS))
  clear hK K
  try simp only[pt,pn,List.set]
  refine wpAnyH_ready (rs:=[19]) (by kernel_rfl) (by simp) ?_
  refine AllReadyH.cons rfl (λK hK=>?_) AllReadyH.nil
  go_simp
  refine hK.out _ _ ?_ (λhh=>?_)
  ·(first|go_keep|exact hS|(simpa[go_sem] using hS))
  clear hK K
  try simp only[pt,pn,List.set]
 rotate_left
 focus
  go_simp
  (go_at_call 69;refine(HS _).mono ?_;rintro e w2 ⟨se,si,rfl,hse,hsi,hsl,q2,p2,f2'⟩;have f2:Fr [] wr w2:=(by first|exact f2'|exact(rZ.drewN _).trans f2'|exact(rZ.drew).trans f2');obtain⟨e2,e9,egl⟩:=HC.out w2 f2;have hS:=e2)
  try go_wp2_with fail
  refine hK.out _ _ ?_ (λhh=>?_)
  ·(first|go_keep|exact hS|(simpa[go_sem] using hS))
  clear hK K
  try simp only[pt,pn,List.set]
  refine wpAnyH_ready (rs:=[4,16]) (by kernel_rfl) (by simp) ?_
  refine AllReadyH.cons rfl (λK hK=>?_) (AllReadyH.cons rfl (λK hK=>?_) AllReadyH.nil)
  focus
   go_simp
   refine hK.out _ _ ?_ (λhh=>?_)
   ·(first|go_keep|exact hS|(simpa[go_sem] using hS))
   clear hK K
   try simp only[pt,pn,List.set]
   refine wpAnyH_ready (rs:=[16]) (by kernel_rfl) (by simp) ?_
   refine AllReadyH.cons rfl (λK hK=>?_) AllReadyH.nil
   go_simp
   (go_at_call 70;refine(HPi _).mono ?_;rintro e w3 ⟨po,rfl,hpo,p3,f3'⟩;have f3:Fr [] w2 w3:=(by first|exact f3'|exact(rZ.drewN _).trans f3'|exact(rZ.drew).trans f3');have f23:=f2.trans f3;have q23:Se.eO w3 se si ⟨#[]⟩ 0:=Holds.fr q2 f3 (by simp);have p23:Pi.bw w3 si k.room ⟨#[]⟩ false:=Holds.fr p2 f3 (by simp);obtain⟨g2,g9,ggl⟩:=HC.out w3 f23;have hS:=g2)
   try go_wp2_with fail
   refine hK.out _ _ ?_ (λhh=>?_)
   ·(first|go_keep|exact hS|(simpa[go_sem] using hS))
   clear hK K
   try simp only[pt,pn,List.set]
   refine tj 17 hh (h:=?_)
   try simp only[pt,pn,List.set]
   refine wpAnyH_ready (rs:=[18]) (by kernel_rfl) (by simp) ?_
   refine AllReadyH.cons rfl (λK hK=>?_) AllReadyH.nil
   go_simp
   refine hK.out _ _ ?_ (λhh=>?_)
   ·(first|go_keep|exact hS|(simpa[go_sem] using hS))
   clear hK K
   try simp only[pt,pn,List.set]
   refine wpAnyH_ready (rs:=[19]) (by kernel_rfl) (by simp) ?_
   refine AllReadyH.cons rfl (λK hK=>?_) AllReadyH.nil
   go_simp
   refine hK.out _ _ ?_ (λhh=>?_)
   ·(first|go_keep|exact hS|(simpa[go_sem] using hS))
   clear hK K
   try simp only[pt,pn,List.set]
  rotate_left
  focus
   go_simp
   (go_at_call 70;refine(HPi _).mono ?_;rintro e w3 ⟨po,rfl,hpo,p3,f3'⟩;have f3:Fr [] w2 w3:=(by first|exact f3'|exact(rZ.drewN _).trans f3'|exact(rZ.drew).trans f3');have f23:=f2.trans f3;have q23:Se.eO w3 se si ⟨#[]⟩ 0:=Holds.fr q2 f3 (by simp);have p23:Pi.bw w3 si k.room ⟨#[]⟩ false:=Holds.fr p2 f3 (by simp);obtain⟨g2,g9,ggl⟩:=HC.out w3 f23;have hS:=g2)
   try go_wp2_with fail
   refine hK.out _ _ ?_ (λhh=>?_)
   ·(first|go_keep|exact hS|(simpa[go_sem] using hS))
   clear hK K
   try simp only[pt,pn,List.set]
   refine tj 17 hh (h:=?_)
   try simp only[pt,pn,List.set]
   refine wpAnyH_ready (rs:=[4,18]) (by kernel_rfl) (by simp) ?_
   refine AllReadyH.cons rfl (λK hK=>?_) (AllReadyH.cons rfl (λK hK=>?_) AllReadyH.nil)
   focus
    go_simp
    refine hK.out _ _ ?_ (λhh=>?_)
    ·(first|go_keep|exact hS|(simpa[go_sem] using hS))
    clear hK K
    try simp only[pt,pn,List.set]
    refine wpAnyH_ready (rs:=[18]) (by kernel_rfl) (by simp) ?_
    refine AllReadyH.cons rfl (λK hK=>?_) AllReadyH.nil
    go_simp
    refine hK.out _ _ ?_ (λhh=>?_)
    ·(first|go_keep|exact hS|(simpa[go_sem] using hS))
    clear hK K
    try simp only[pt,pn,List.set]
    refine wpAnyH_ready (rs:=[19]) (by kernel_rfl) (by simp) ?_
    refine AllReadyH.cons rfl (λK hK=>?_) AllReadyH.nil
    go_simp
    refine hK.out _ _ ?_ (λhh=>?_)
    ·(first|go_keep|exact hS|(simpa[go_sem] using hS))
    clear hK K
    try simp only[pt,pn,List.set]
   rotate_left
   focus
    go_simp
    refine hK.out _ _ ?_ (λhh=>?_)
    ·(first|go_keep|exact hS|(simpa[go_sem] using hS))
    clear hK K
    try simp only[pt,pn,List.set]
    refine wpAnyH_ready (rs:=[4,19]) (by kernel_rfl) (by simp) ?_
    refine AllReadyH.cons rfl (λK hK=>?_) (AllReadyH.cons rfl (λK hK=>?_) AllReadyH.nil)
    focus
     go_simp
     refine hK.out _ _ ?_ (λhh=>?_)
     ·(first|go_keep|exact hS|(simpa[go_sem] using hS))
     clear hK K
     try simp only[pt,pn,List.set]
     refine wpAnyH_ready (rs:=[19]) (by kernel_rfl) (by simp) ?_
     refine AllReadyH.cons rfl (λK hK=>?_) AllReadyH.nil
     go_simp
     refine hK.out _ _ ?_ (λhh=>?_)
     ·(first|go_keep|exact hS|(simpa[go_sem] using hS))
     clear hK K
     try simp only[pt,pn,List.set]
    rotate_left
    focus
     go_simp
     refine hK.out _ _ ?_ (λhh=>?_)
     ·(first|go_keep|exact hS|(simpa[go_sem] using hS))
     clear hK K
     try simp only[pt,pn,List.set]
     refine wpAnyH_ready (rs:=[4]) (by kernel_rfl) (by simp) ?_
     refine AllReadyH.cons rfl (λK hK=>?_) AllReadyH.nil
     go_simp
     refine hK.out _ _ ?_ (λhh=>?_)
     ·(first|go_keep|exact hS|(simpa[go_sem] using hS))
     clear hK K
     try simp only[pt,pn,List.set]
    rotate_left
   rotate_left 2
  rotate_left 3
 rotate_left 4
 all_goals
  refine wpAnyH_ready (rs:=[20]) (by kernel_rfl) (by simp) ?_
  refine AllReadyH.cons rfl (λK hK=>?_) AllReadyH.nil
  (refine bu rfl (.tmp 39) (.tmp 54) 101 rfl i3 _ 8 underlying101 HI.1 HI.2.1 HI.2.2.1 HI.2.2.2 rfl (by decide) (.slice ac j cc') (ay (.slice ac j cc')) rfl (HOw.sl.fr0 (by repeat (first|exact rZ|exact f23|apply Fr.alloc|apply Fr.drewN|apply Fr.drew))) _ 1 1 [.pointer (some ⟨w3.heap.size,0,none⟩)] rfl rfl (Cells.one (aE (cs:=#[.pointer (some ⟨w3.heap.size,0,none⟩)]) (t:=104) (by simp))) (by simp[Value.oneCell']) (by unfold maxLen;omega) (by omega) ?_;intro v4 w4 own4 hs4 hf4 ho4 hm4;obtain⟨a4,c4,rfl⟩:=hs4.form;have P4:=yc (b:=⟨w3.heap.size,se,si,po,none⟩) (s:=s) HH2 HL.2 (by repeat (first|exact rZ|exact f23|apply Fr.alloc|apply Fr.drewN|apply Fr.drew)) hB (by repeat (first|exact aE (by simp)|apply Holds.alloc|apply Holds.drewN|apply Holds.drew)) (Holds.fr (S:=[]) q23 (by repeat (first|exact rZ|apply Fr.alloc|apply Fr.drewN|apply Fr.drew)) (by simp)) (Holds.fr (S:=[]) p23 (by repeat (first|exact rZ|apply Fr.alloc|apply Fr.drewN|apply Fr.drew)) (by simp)) (Holds.fr (S:=[]) p3 (by repeat (first|exact rZ|apply Fr.alloc|apply Fr.drewN|apply Fr.drew)) (by simp)) f23.size hse hsi (Nat.le_trans f2.size (by simpa using hpo)) rfl rZ rfl hs4 hf4 ho4 hm4;have hS:w4.cell? ⟨g,2,none⟩=some (.int .i64 k.room):=(by simpa[dH,ew] using P4.srv.cell 2);have z9:=P4.srv.frozen 9;have y9:=P4.srv.cell 9;simp[dH,ew] at y9;have yl:=P4.srv.lt)
  refine hK.out _ _ ?_ (λhh=>?_)
  ·(first|go_keep|exact hS|(simpa[go_sem] using hS))
  clear hK K
  try simp only[pt,pn,List.set]
  refine tj 21 hh (h:=?_)
  try simp only[pt,pn,List.set]
  refine tj 22 hh (h:=?_)
  try simp only[pt,pn,List.set]
  refine wpAnyH_ready (rs:=[23]) (by kernel_rfl) (by simp) ?_
  refine AllReadyH.cons rfl (λK hK=>?_) AllReadyH.nil
  go_simp
  refine hK.out _ _ ?_ (λhh=>?_)
  ·(first|go_keep|exact hS|(simpa[go_sem] using hS))
  clear hK K
  try simp only[pt,pn,List.set]
  refine wpAnyH_done (by kernel_rfl) ?_ _
  refine NoPanic.normal ?_
 all_goals
  have PH:=hid (And.intro P4 (And.intro f23 (And.intro hse (And.intro hsi hpo))))
  have hne:po≠si:=λe=>by
   have h1:=Holds.lt p2
   have h2:w2.heap.size<=po:=by simpa using hpo
   omega
  have HNE:=hid hne
  have hsz:=hid f2.size
  clear P4 q2 p2 p3 q23 p23 hs4 hf4 ho4 hm4 hne
  go_wp2_with fail
  go_ret2
  obtain⟨h1,h2⟩:=AQ (b:=⟨w3.heap.size,se,si,po,none⟩) HH2 PH.1 PH.2.1.size PH.2.2.1 PH.2.2.2.1 (Nat.le_trans hsz (by simpa using PH.2.2.2.2)) rfl HNE.out
  refine⟨?_,h1,h2⟩
  simp[HL.1]
end Sv
