/- Walks. -/
import Derived.Test.YtocppjcocnckmaaGreatDoorM43
import Derived.Lib.MinMax
set_option maxRecDepth 100000
set_option maxHeartbeats 8000000
set_option linter.all false
open Go.Lib (hid)
namespace Go.Proofs.YtocppjcocnckmaaGreatDoor
open Go.Proofs.Tryz
namespace Co
open Go.RowKit
theorem tE (w:World)(b:Nat)(v:Int)(x:M.Item)(hb:w.cell? ⟨b,0,none⟩=some (.int .i64 v))(hx:x.version=v) :
  Calls prog 251 #[.agg (Ev.ic x).toArray,.pointer (some ⟨b,0,none⟩)] w λe w'=>e = .returned (.bool true)/\Fr [] w w':=by
 have hl:=block_lt_of_cell hb
 have f0:Fr [] w (w.alloc (.cells (Ev.ic x).toArray 59)):=rZ.alloc _
 obtain⟨u,_,g,t⟩:=x
 simp only at hx
 subst hx
 simp only[Ev.ic] at f0 ⊢
 go_enter func251,ntmps251
 go_wp2_with fail
 go_ret
 exact⟨by simp,f0⟩
theorem tD (w:World)(g c b:Nat)(v:Int)(x y:M.Item)(h:Row w 59 4 g 2 c (flat Ev.ic [x,y]))(hb:w.cell? ⟨b,0,none⟩=some (.int .i64 v))(hx:y.version=v) :
  Calls prog 292 #[.slice (some ⟨g,4,none⟩) 1 (c - 1),.func (.func 251) #[] #[.pointer (some ⟨b,0,none⟩)]] w λe w'=>e = .returned (.int .i64 0)/\Fr [] w w':=by
 have a4:w.cell? ⟨g,4,none⟩=some (.string y.uid):=h.cell rfl
 have a5:w.cell? ⟨g,5,none⟩=some (.int .i64 y.version):=h.cell rfl
 have a6:w.cell? ⟨g,6,none⟩=some (.bool y.gone):=h.cell rfl
 have a7:w.cell? ⟨g,7,none⟩=some (.string y.au):=h.cell rfl
 have HP:=hid (tE w b v y hb hx)
 simp only[Ev.ic] at HP
 clear h hb hx
 go_enter func292,ntmps292
 go_wp2_with fail
 refine wp_loop_rounds 2 ?_
 rw[rounds_succ]
 go_wp2_with fail
 refine uu HP λw' f2=>?_
 clear a4 a5 a6 a7
 go_wp2_with fail
 go_ret
 exact⟨rfl,f2⟩
theorem tF (w:World)(g c b:Nat)(v:Int)(x y:M.Item)(h:Row w 59 4 g 2 c (flat Ev.ic [x,y]))(hb:w.cell? ⟨b,0,none⟩=some (.int .i64 v))(hx:y.version=v) :
  Calls prog 250 #[.slice (some ⟨g,4,none⟩) 1 (c - 1),.func (.func 251) #[] #[.pointer (some ⟨b,0,none⟩)]] w λe w'=>e = .returned (.bool true)/\Fr [] w w':=by
 have HI:=hid (tD w g c b v x y h hb hx)
 clear h hb hx
 go_enter func250,ntmps250
 go_wp2_with fail
 refine uu HI λw' f2=>?_
 go_wp2_with fail
 go_ret
 exact⟨rfl,f2⟩
def One (l:List M.Item):Prop:=l=[]∨∃ x y:M.Item,l=[x,y]/\y.version=x.version
theorem lv (w:World)(B:Nat)(v:Value)(l:List M.Item)(aD:Int)(h:Ev.aV w B v l)(hl:One l)(hm:1<=aD) :
  Calls prog 217 #[v,.int .i64 aD] w λe w'=>e = .returned (.int .i64 l.length)/\Fr [] w w':=by
 have hmx:max aD 1=aD:=by omega
 rcases hl with rfl|⟨x,y,rfl,hv⟩
 ·obtain⟨a,c,rfl⟩:=h.form
  clear h
  have hn:¬ aD<0:=by omega
  go_enter func217,ntmps217
  go_wp2_with fail
  refine wp_loop_rounds 1 ?_
  rw[rounds_succ]
  go_wp2_with fail
  go_ret
  exact⟨rfl,rZ⟩
 rcases h with⟨_,h,_⟩|⟨g,c,_,rfl,h⟩
 ·exact absurd h (by simp)
 have a1:w.cell? ⟨g,1,none⟩=some (.int .i64 x.version):=h.cell rfl
 have hgl:=h.lt
 have hb:Holds (w.alloc (.cells #[.int .i64 x.version] 2)) w.heap.size 2 #[.int .i64 x.version]:=Holds.new _ _ _
 have fb:Fr [] w (w.alloc (.cells #[.int .i64 x.version] 2)):=rZ.alloc _
 have HC:=hid (tF _ g c _ x.version x y (h.fr fb (by simp)) (hb.cell 0) hv)
 obtain⟨d,rfl⟩:∃ d,c=d+2:=⟨c - 2,by have:2<=c:=h.le;omega⟩
 rw[show d+2 - 1=d+1 from rfl] at HC
 have FB:=hid fb
 clear h hv hb fb
 by_cases hm1:aD=1
 ·subst hm1
  clear hmx hm
  have hmx:max (1:Int) 1=1:=by omega
  have hwr:IntKind.i64.wrap 0=0:=by decide
  go_enter func217,ntmps217
  go_wp2_with fail
  refine wp_loop_rounds 2 ?_
  rw[rounds_succ]
  go_wp2_with fail
  refine uu HC λw2 f2=>?_
  go_wp2_with fail
  rw[rounds_succ]
  go_wp2_with fail
  go_ret
  exact⟨rfl,FB.trans f2⟩
 have hn:¬ aD<2:=by omega
 go_enter func217,ntmps217
 go_wp2_with fail
 refine wp_loop_rounds 1 ?_
 rw[rounds_succ]
 go_wp2_with fail
 go_ret
 exact⟨rfl,rZ⟩
theorem tJ (w:World)(B g:Nat)(c:M.Col)(token:Int)(h:bX w B g c)(h0:token≠0)(h1:token<c.aG∨token > c.az) :
  Calls prog 216 #[.pointer (some ⟨g,0,none⟩),.int .i64 token] w λe w'=>e = .returned (.tuple #[.slice none 0 0,.int .i64 8])/\Fr [] w w':=by
 obtain⟨C,hC⟩:∃ C,w.heap.size=C:=⟨_,rfl⟩
 have HC:=hid hC
 obtain⟨w0,hw0⟩:∃ w0,w0=((w.alloc (.cells #[.pointer (some ⟨g,0,none⟩)] 197)).alloc (.cells #[.int .i64 token] 2)).alloc (.cells #[.slice none 0 0] 53):=⟨_,rfl⟩
 have f0:Fr [] w w0:=by rw[hw0];exact((rZ.alloc _).alloc _).alloc _
 have b0:Holds w0 C 197 #[.pointer (some ⟨g,0,none⟩)]:=by rw[hw0];exact((aE hC).alloc _).alloc _
 have b1:Holds w0 (C+1) 2 #[.int .i64 token]:=by rw[hw0];exact(aE (by simp[hC])).alloc _
 obtain⟨m,r,hm,hr,p00,mp00,rp00⟩:=h
 have p0:=p00.fr f0 (by simp)
 have c0:=b0.cell 0
 have c1:=b1.cell 0
 have c4:=p0.cell 4
 have c5:=p0.cell 5
 simp at c0 c1 c4 c5
 have n1:(token==0)=false:=by simpa using h0
 have F0:=hid f0
 clear hC f0 b0 b1 mp00 rp00 hm hr h0 p00 p0
 by_cases h2:token<c.aG
 ·have n2:decide (token<c.aG)=true:=decide_eq_true h2
  clear h1
  go_enter func216,ntmps216
  go_wp2_with fail
  rw[<-hw0]
  simp only[HC.out]
  clear hw0
  go_quiet (fail)
  go_wp2_with fail
  go_ret2
  exact⟨rfl,F0.drewN _⟩
 have n2:decide (token<c.aG)=false:=decide_eq_false h2
 have n3:decide (token > c.az)=true:=decide_eq_true (by omega)
 clear h1 h2
 go_enter func216,ntmps216
 go_wp2_with fail
 rw[<-hw0]
 simp only[HC.out]
 clear hw0
 go_quiet (fail)
 go_wp2_with fail
 go_ret2
 exact⟨rfl,F0.drewN _⟩
open Go.RowKit
theorem iV {fn:Func}{t u v y:Tmp}(h:fn.results=#[.tmp t,.tmp u,.tmp v,.tmp y])(tmps:Array Value)(P:Program)(w:World) :
  (results fn tmps).run P w = .ok (.tuple #[tmps.getD t undef,tmps.getD u undef,tmps.getD v undef,tmps.getD y undef]) w:=by
 simp[results,h]
theorem xd (w:World)(B g:Nat)(c:M.Col)(h:bX w B g c)(hl:c.ah.length<=12)(hB:B<=w.heap.size)(hch:M.chain (M.items c)=true) :
  Calls prog 216 #[.pointer (some ⟨g,0,none⟩),.int .i64 0] w λe w'=>∃ v,e = .returned (.tuple #[v,.int .i64 0])/\Ev.aV w' B v (M.items c)/\Fr [] w w':=by
 have HCH:=hid hch
 have H:=hid h
 obtain⟨C,hC⟩:∃ C,w.heap.size=C:=⟨_,rfl⟩
 have HC:=hid hC
 obtain⟨w0,hw0⟩:∃ w0,w0=((w.alloc (.cells #[.pointer (some ⟨g,0,none⟩)] 197)).alloc (.cells #[.int .i64 0] 2)).alloc (.cells #[.slice none 0 0] 53):=⟨_,rfl⟩
 have f0:Fr [] w w0:=by rw[hw0];exact((rZ.alloc _).alloc _).alloc _
 have b0:Holds w0 C 197 #[.pointer (some ⟨g,0,none⟩)]:=by rw[hw0];exact((aE hC).alloc _).alloc _
 have b1:Holds w0 (C+1) 2 #[.int .i64 0]:=by rw[hw0];exact(aE (by simp[hC])).alloc _
 have b2:Holds w0 (C+1+1) 53 #[.slice none 0 0]:=by rw[hw0];exact aE (by simp[hC])
 have HL:=hid (Bh w0 B g c (h.fr0 f0) (by omega) (by have:=f0.size;omega))
 have F0:=hid f0
 have HB2:=hid b2
 have c0:=b0.cell 0
 have c1:=b1.cell 0
 simp at c0 c1
 clear h hch hC f0 b0 b1 b2
 go_enter func216,ntmps216
 go_wp2_with fail
 rw[<-hw0]
 refine HL.mono ?_
 rintro e w1 ⟨v,rfl,hi,f1⟩
 obtain⟨av,cv,hv⟩:=hi.form
 subst hv
 have b2:=HB2.fr f1 (by simp)
 have y2:=b2.cell 0
 have z2:=b2.frozen 0
 have hlt:=b2.lt
 have hne:∀ k,ay (.slice av (M.items c).length cv)=some k->k∉[C+1+1]:=λk hk hm=>by
  have:=(hi.ty hk).1
  simp at hm
  subst hm
  rw[b2.ty] at this
  cases this
 obtain⟨W,hW⟩:∃ W,W=w1.setCell ⟨C+1+1,0,none⟩ (.slice av (M.items c).length cv):=⟨_,rfl⟩
 have fW:Fr [C+1+1] w1 W:=by rw[hW];exact rZ.setCell (by simp) _
 have HI:=hid (Own.fr hi fW hne)
 have yW:W.cell? ⟨C+1+1,0,none⟩=some (.slice av (M.items c).length cv):=by
  rw[hW]
  have:=(b2.set 0 (.slice av (M.items c).length cv)).cell 0
  simpa using this
 have F2:=hid (show Fr [] w W from ((F0.trans f1).step fW (λk hk=>.inr (by have:=HC.out;simp at hk;omega))))
 have HS:=hid (So.qX W B _ (M.items c) HI HCH (by simpa[M.items] using hl))
 have hil:(M.items c).length<=12:=by simpa[M.items] using hl
 simp at y2
 simp only[HC.out]
 clear hi f1 b2 hne fW c0 c1 hw0
 go_wp2_with fail
 rw[<-hW]
 refine uu HS λw3 f3=>?_
 have hl3:=block_lt_of_cell yW
 have y3:=(f3.ob (o:=0) hl3).trans yW
 clear hW yW y2 z2 hlt
 go_wp2_with fail
 go_ret2
 exact⟨_,rfl,HI.fr0 f3,F2.trans f3⟩
theorem wP (v:Int)(g:Bool)(t:ByteArray):M.chain (M.two v g t)=true:=by
 simp[M.chain,M.two,M.before,M.uab.2.2.1]
theorem yd {c:M.Col}(h:M.Whole c)(token:Int):One ((c.since token).getD []):=by
 rcases M.nr h token with e|e|⟨g,t,_,e⟩<;>rw[e]
 ·exact .inl rfl
 ·exact .inl rfl
 exact .inr ⟨_,_,rfl,rfl⟩
theorem qY (w:World)(B g:Nat)(c:M.Col)(token:Int)(h:bX w B g c)(hB:B<=w.heap.size)(hw:M.Whole c) :
  Calls prog 216 #[.pointer (some ⟨g,0,none⟩),.int .i64 token] w λe w'=>∃ v,e = .returned (.tuple #[v,.int .i64 (if (c.since token).isSome then 0 else 8)])/\Ev.aV w' B v ((c.since token).getD [])/\Fr [] w w':=by
 have hcl:c.ah.length<=12:=by
  rcases hw.ah with e|⟨t,_,e⟩<;>rw[e]<;>simp
 cases M.Au hw token with
 | none h0 h1 =>
  have e:c.since token=none:=by rw[M.Col.since,if_neg h0,if_pos h1]
  rw[e]
  refine uu (tJ w B g c token h h0 h1) λw' f=>?_
  exact⟨_,rfl,.inl ⟨rfl,rfl,rfl⟩,f⟩
 | live h0 h1 =>
  subst h0
  have e:c.since 0=some (M.items c)/\M.chain (M.items c)=true:=by
   rw[M.Col.since,if_pos rfl]
   rcases h1 with e|⟨t,ht,e⟩<;>rw[e]
   ·exact⟨rfl,rfl⟩
   exact⟨by rw[M.vP],wP _ _ _⟩
  rw[e.1]
  exact xd w B g c h hcl hB e.2
 | back h0 h1 h2 =>
  have e:c.since token=some ((fp c token c.log.reverse).reverse):=by
   rw[M.Col.since,if_neg h0,if_neg h1]
   show some (M.nm (fp c token c.log.reverse))=_
   rcases h2 with e|⟨g,t,ht,e⟩
   ·rw[show fp c token c.log.reverse=[] from e];rfl
   rw[show fp c token c.log.reverse=_ from e,M.vN];rfl
  rw[e]
  refine tK w B g c token h hB h0 (by omega) (by omega) (λx hx=>?_) ?_
  ·rcases (hw.log x hx).2 with e|e<;>rw[e]<;>decide +kernel
  rcases h2 with e|⟨g,t,ht,e⟩
  ·exact .inl e
  exact .inr ⟨_,_,e,rfl,show Lib.compareBytes M.ua.data.toList M.ub.data.toList = -1 by decide +kernel⟩
theorem AM (w:World)(B g:Nat)(c:M.Col)(token aD:Int)(h:bX w B g c)(hB:B<=w.heap.size)(hw:M.Whole c)(hm:1<=aD) :
  Calls prog 164 #[.pointer (some ⟨g,0,none⟩),.int .i64 token,.int .i64 aD] w λe w'=>∃ v,e = .returned (.tuple #[v,.int .i64 (if (c.since token).isSome then c.az else 0),.bool false,.int .i64 (if (c.since token).isSome then 0 else 8)])/\Ev.aV w' B v ((c.since token).getD [])/\Fr [] w w':=by
 have HS:=hid (qY w B g c token h hB hw)
 have HO:=hid (yd hw token)
 have H:=hid h
 clear h hw
 have c4:∀ W,Fr [] w W->W.cell? ⟨g,4,none⟩=some (.int .i64 c.az):=λW f=>by
  obtain⟨m,r,_,_,h1,_⟩:=(H.fr0 f).at_
  exact h1.cell 4
 have C4:=hid c4
 clear c4
 cases hs:c.since token with
 | none =>
  rw[hs] at HS HO
  clear hs
  simp only[Option.isSome_none,Option.getD_none,Bool.false_eq_true,if_false] at HS ⊢
  go_enter func164,ntmps164
  go_wp2_with fail
  refine HS.mono ?_
  rintro e w1 ⟨v,rfl,hi,f1⟩
  go_wp2_with fail
  refine bodyPost_ret (iV (t:=6) (u:=7) (v:=8) (y:=9) rfl _ _ _) rfl ?_
  exact⟨_,rfl,.inl ⟨rfl,rfl,rfl⟩,f1⟩
 | some l =>
  rw[hs] at HS HO
  clear hs
  simp only[Option.isSome_some,Option.getD_some,if_true] at HS HO ⊢
  have HSP:=hid (λW v h=>lv W B v l aD h HO hm)
  by_cases h0:token=0
  ·subst h0
   clear hm
   go_enter func164,ntmps164
   go_wp2_with fail
   refine HS.mono ?_
   rintro e w1 ⟨v,rfl,hi,f1⟩
   obtain⟨av,cv,hv⟩:=hi.form
   subst hv
   have HI:=hid (And.intro hi f1)
   have c4:=C4.out w1 f1
   clear hi f1
   go_wp2_with fail
   go_quiet (fail)
   go_wp2_with fail
   refine bodyPost_ret (iV (t:=6) (u:=7) (v:=8) (y:=9) rfl _ _ _) rfl ?_
   exact⟨_,rfl,HI.1.fr0 (rZ.drewN _),HI.2.drewN _⟩
  clear hm
  have h0':(token==0)=false:=by simpa using h0
  clear h0
  go_enter func164,ntmps164
  go_wp2_with fail
  refine HS.mono ?_
  rintro e w1 ⟨v,rfl,hi,f1⟩
  obtain⟨av,cv,hv⟩:=hi.form
  subst hv
  have HSQ:=hid (HSP w1 _ hi)
  have HI:=hid (And.intro hi f1)
  clear hi f1
  go_wp2_with fail
  refine uu HSQ λw2 f2=>?_
  have HI2:=hid (And.intro (HI.1.fr0 f2) (HI.2.trans f2))
  have c4:=C4.out w2 HI2.2
  clear f2
  go_wp2_with fail
  go_quiet (fail)
  go_wp2_with fail
  refine bodyPost_ret (iV (t:=6) (u:=7) (v:=8) (y:=9) rfl _ _ _) rfl ?_
  exact⟨_,rfl,HI2.1.fr0 (rZ.drewN _),HI2.2.drewN _⟩
end Co
