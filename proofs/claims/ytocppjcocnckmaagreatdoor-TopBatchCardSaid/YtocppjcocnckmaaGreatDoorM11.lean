/- Walks. -/
import Derived.Test.YtocppjcocnckmaaGreatDoorM10
import Derived.Lib.AppendStr
set_option maxRecDepth 100000
set_option maxHeartbeats 8000000
set_option linter.all false
open Go.Lib (hid)
namespace Go.Proofs.YtocppjcocnckmaaGreatDoor
open Go.Proofs.Tryz
namespace Fm
open Go.RowKit
theorem info5 : (prog.info? 5).map (λi=>(i.zero,i.size,i.bytes))=some (some (.int .u8 0),1,1):=by kernel_rfl
def bc (l:List UInt8):List Value:=l.map λc=>Value.int .u8 c.toNat
theorem cF (l m:List UInt8):bc (l++m)=bc l++bc m:=by simp[bc]
theorem eg (l:List UInt8):(bc l).length=l.length:=by simp[bc]
theorem jh (l:List UInt8):∀ u∈bc l,u.oneCell'=true:=by
 intro u hu
 simp only[bc,List.mem_map] at hu
 obtain⟨c,_,rfl⟩:=hu
 rfl
theorem dQ.cells {w:World}{B:Nat}{a:Option Addr}{l:List UInt8}(h:dQ w B a l):Cells w a (bc l):=λj u hu=>by
 simp only[bc,List.getElem?_map,Option.map_eq_some_iff] at hu
 obtain⟨c,hc,rfl⟩:=hu
 have hj:j<l.length:=(List.getElem?_eq_some_iff.1 hc).1
 obtain⟨b,off,rfl,_,hk⟩:=h (by omega)
 exact⟨_,rfl,by rw[dZ];exact hk j c hc⟩
structure Got (w W:World)(T:TypeId)(k:Int)(s:ByteArray)(v:Value)(n:Nat)(xs:List Value)(own:Option Nat):Prop where
 fr:Fr [] w W
 sl:Sl W 5 1 v n xs own
 new:∀ g,g∈own.toList->w.heap.size<g
 box:Holds W w.heap.size T #[.int .i64 k,.string s]
section
variable {w W W':World} {T:TypeId} {k:Int} {s:ByteArray} {v v':Value} {n m:Nat} {xs ys:List Value} {own own':Option Nat}
theorem Got.c0 (h:Got w W T k s v n xs own):W.cell? ⟨w.heap.size,0,none⟩=some (.int .i64 k):=h.box.cell 0
theorem Got.c1 (h:Got w W T k s v n xs own):W.cell? ⟨w.heap.size,1,none⟩=some (.string s):=h.box.cell 1
theorem Got.same (h:Got w W T k s v n xs own)(hf:Fr [] W W'):Got w W' T k s v n xs own:=⟨h.fr.trans hf,h.sl.fr0 hf,h.new,h.box.fr hf (by simp)⟩
theorem Got.next (h:Got w W T k s v n xs own)(hs:Sl W' 5 1 v' m ys own')(hf:Fr own.toList W W')(ho:own'=own∨∃ g,own'=some g/\W.heap.size<=g):Got w W' T k s v' m ys own':=by
 refine⟨h.fr.step hf (λx hx=>.inr (Nat.le_of_lt (h.new x hx))),hs,?_,h.box.fr hf (λhx=>absurd (h.new _ hx) (by omega))⟩
 rcases ho with rfl|⟨g,rfl,hg⟩
 ·exact h.new
 have:=h.box.lt
 simp;omega
theorem Cells.bO {g t:Nat}{cs:Array Value}(h:Holds w g t cs):Cells w (some ⟨g,0,none⟩) cs.toList:=λj u hu=>⟨_,rfl,by
 rw[dZ,Nat.zero_add,h.cell j]
 simpa using hu⟩
theorem Got.owns {g:Nat}(h:Got w W T k s v n xs (some g)):W.ownsRow (w.heap.size+1) 5 1 v n xs:=by
 obtain⟨c,rfl,cur,h1,h2,h3,h4,h5,h6⟩:=h.sl.cI
 exact⟨h6,.inr ⟨g,c,cur,rfl,h.new g (by simp),h1,h2,h3,h4,h5⟩⟩
theorem Got.vY {g:Nat}(h:Got w W T k s v n xs (some g))(ho:W'.ownsRow (w.heap.size+1) 5 1 v' m ys)(hg:W.grownBy W' v.ownBlock)(hn:v'≠.slice none 0 0):∃ g' c',v' = .slice (some ⟨g',0,none⟩) m c'/\Got w W' T k s v' m ys (some g'):=by
 obtain⟨c,rfl,hr⟩:=h.sl.cI
 have hf:Fr [g] W W':=Fr.iF hg (λx hx=>by simp[Value.ownBlock] at hx;simp[hx])
 obtain⟨hl,⟨rfl,_⟩|⟨g',c',cur,rfl,hb,h1,h2,h3,h4,h5⟩⟩:=ho
 ·exact absurd rfl hn
 refine⟨g',c',rfl,h.fr.step hf (λx hx=>.inr ?_),Sl.row ⟨cur,h1,h2,h3,h4,h5,hl⟩,λx hx=>by simp at hx;omega,h.box.fr hf (λhx=>?_)⟩
 ·simp at hx;subst hx;exact Nat.le_of_lt (h.new x (by simp))
 simp at hx;have:=h.new g (by simp);omega
end
theorem Av (w:World)(k:Int)(s:ByteArray)(len:Nat)(hl:len<=100000)(hs:s.size<=20000) :
  ∃ w1,(Instr.makeSlice 69 (.int .i64 0) (.int .i64 ((len:Int)+s.size+6))).run prog (w.alloc (.cells #[.int .i64 k,.string s] 161)) = .ok (.slice (some ⟨w.heap.size+1,0,none⟩) 0 (len+s.size+6)) w1 /\
   Got w w1 161 k s (.slice (some ⟨w.heap.size+1,0,none⟩) 0 (len+s.size+6)) 0 [] (some (w.heap.size+1)):=by
 obtain⟨i5,hi,hz0,hz1,hz2⟩:=info_parts info5
 have fb:=(Fr.refl [] w).alloc (.cells #[.int .i64 k,.string s] 161)
 obtain⟨w1,hmk,hown,hgr⟩:=run_makeSlice_owned (P:=prog) (w.alloc (.cells #[.int .i64 k,.string s] 161)) 0 69 5 i5 (.int .u8 0) 1 underlying69 hi hz0 hz1 .i64 .i64 (len+s.size+6) (by omega) (by rw[hz2];omega) (by unfold maxLen;omega) (Nat.zero_le _)
 rw[show (((len+s.size+6:Nat)):Int)=(len:Int)+s.size+6 by omega] at hmk
 have f1:Fr [] w w1:=fb.trans (Fr.iF hgr (λk hk=>by cases hk))
 have hsz:(w.alloc (.cells #[.int .i64 k,.string s] 161)).heap.size=w.heap.size+1:=by simp
 rw[hsz] at hmk hown
 refine⟨w1,hmk,f1,?_,by simp,(Holds.new w 161 _).fr (Fr.iF (S:=[]) hgr (λk hk=>by cases hk)) (by simp)⟩
 obtain⟨hx,⟨h0,_⟩|⟨g,c,cur,hv,hb,h1,h2,h3,h4,h5⟩⟩:=hown
 ·cases h0
 cases hv
 exact Sl.row ⟨cur,h1,h2,h3,h4,h5,hx⟩
def putCells (l:List UInt8)(k:Int)(s:ByteArray):List Value :=
 bc l++[.int .u8 ((s.size:Int) / 65536),.int .u8 ((s.size:Int) / 256),.int .u8 ((s.size:Int) % 256),.int .u8 k]++Lib.strCells s++[.int .u8 (cK k s.data.toList / 256),.int .u8 (cK k s.data.toList % 256)]
theorem EN (w:World)(a:Option Addr)(len cap:Nat)(l:List UInt8)(hb:dQ w w.heap.size a l)(hlen:l.length=len)(hl:len<=100000)(k:Int)(s:ByteArray)(h0:0<=k)(h1:k<=255)(hs:s.size<=20000) :
  Calls prog 91 #[.slice a len cap,.agg #[.int .i64 k,.string s]] w λe w'=>∃ g c,e = .returned (.tuple #[.slice (some ⟨g,0,none⟩) (len+s.size+6) c,.int .i64 0])/\w.heap.size<g/\Row w' 5 1 g (len+s.size+6) c (putCells l k s)/\Fr [] w w':=by
 obtain⟨i5,hi,hz0,hz1,hz2⟩:=info_parts info5
 obtain⟨w1,hmk1,G0⟩:=Av w k s len hl hs
 have hb1:=hb.fr G0.fr (Nat.le_refl _) (by simp)
 have q0:=G0.c0
 have q1:=G0.c1
 have hss:s.size<=maxLen:=by unfold maxLen;omega
 obtain⟨S,hS,hS0,hS1⟩:∃ S,cK k s.data.toList=S/\0<=S/\S<65536:=⟨_,rfl,fF _ _⟩
 have HS:=hid hS
 have hsum:=λW=>kC k s W hss
 simp only[hS] at hsum
 clear hS
 go_enter func91,ntmps91
 go_wp2_with (first
  | (at_builtin;first
   | (refine af rfl (.tmp 27) (.tmp 28) 69 rfl i5 _ 1 underlying69 hi hz0 hz1 hz2 rfl (by decide) _ _ rfl G0.sl a len cap (bc l) rfl (by simpa[eg] using hlen) hb1.cells (jh l) (by unfold maxLen;omega) (by omega) ?_;intro v1 w2 own1 hs1 hf1 ho1 hm1;have G1:=G0.next hs1 hf1 ho1;simp only[Nat.zero_add,List.nil_append] at G1;have d0:=G1.c0;have d1:=G1.c1;obtain⟨a1,cap1,rfl⟩:=G1.sl.form;clear hs1 hf1 ho1 hm1 G0 q0 q1 hb1)
   | (refine af rfl (.tmp 30) (.tmp 42) 69 rfl i5 _ 1 underlying69 hi hz0 hz1 hz2 rfl (by decide) _ _ rfl (G1.same ((Fr.refl [] w2).alloc _)).sl _ 4 4 _ rfl rfl (Cells.bO (Holds.new w2 5 #[.int .u8 ((s.size:Int) / 65536),.int .u8 ((s.size:Int) / 256),.int .u8 ((s.size:Int) % 256),.int .u8 k])) (by simp[Value.oneCell']) (by unfold maxLen;omega) (by omega) ?_;intro v2 w3 own2 hs2 hf2 ho2 hm2;obtain⟨g2,rfl⟩:=hm2 (by omega);have G2:=(G1.same ((Fr.refl [] w2).alloc _)).next hs2 hf2 ho2;have e0:=G2.c0;have e1:=G2.c1;obtain⟨a2,cap2,rfl⟩:=G2.sl.form;clear hs2 hf2 ho2 hm2 G1 d0 d1)
   | (refine Lib.wpList_append_own_string w3 rfl (.tmp 44) (.tmp 46) 69 9 rfl (w.heap.size+1) 5 i5 underlying69 underlying9 hi hz0 hz1 hz2 (.slice a2 (len+4) cap2) (len+4) _ rfl G2.owns s rfl (by unfold maxLen;omega) (by omega) G2.box.lt ?_;intro v3 w4 ho3 hg3 hn3;obtain⟨g3,c3,rfl,G3⟩:=G2.vY ho3 hg3 (λh=>by simpa using hn3.1 h);have e0':=G3.c0;have e1':=G3.c1;clear ho3 hg3 hn3 G2 e0 e1)
   | (refine af rfl (.tmp 53) (.tmp 59) 69 rfl i5 _ 1 underlying69 hi hz0 hz1 hz2 rfl (by decide) _ _ rfl (G3.same ((Fr.refl [] w4).alloc _)).sl _ 2 2 _ rfl rfl (Cells.bO (Holds.new w4 5 #[.int .u8 (S / 256),.int .u8 (S % 256)])) (by simp[Value.oneCell']) (by unfold maxLen;omega) (by omega) ?_;intro v4 w5 own4 hs4 hf4 ho4 hm4;obtain⟨g4,rfl⟩:=hm4 (by omega);have G4:=(G3.same ((Fr.refl [] w4).alloc _)).next hs4 hf4 ho4;obtain⟨c4,rfl,hr4⟩:=G4.sl.cI;clear hs4 hf4 ho4 hm4 G3))
  | (go_at_call 125;refine(hsum _).mono ?_;rintro e w' ⟨rfl,rfl⟩))
 go_ret2
 have e4:len+4+s.size+2=len+s.size+6:=by omega
 rw[e4] at hr4
 refine⟨g4,c4,by rw[<-e4];rfl,G4.new g4 (by simp),?_,G4.fr⟩
 unfold putCells
 rw[HS]
 exact hr4
theorem CR (w:World)(a:Option Addr)(len cap:Nat)(l:List UInt8)(hb:dQ w w.heap.size a l)(hlen:l.length=len)(hl:len<=100000)(k:Int)(s:ByteArray)(h0:0<=k)(h1:k<=255)(hs:s.size<=20000) :
  Calls prog 15 #[.slice a len cap,.agg #[.int .i64 k,.string s]] w λe w'=>∃ g c,e = .returned (.tuple #[.slice (some ⟨g,0,none⟩) (len+s.size+6) c,.int .i64 0])/\w.heap.size<g/\Row w' 5 1 g (len+s.size+6) c (putCells l k s)/\Fr [] w w':=by
 obtain⟨i5,hi,hz0,hz1,hz2⟩:=info_parts info5
 have G0:Got w ((w.alloc (.cells #[.int .i64 k,.string s] 74)).alloc (.cells #[] 5))  74 k s (.slice (some ⟨w.heap.size+1,0,none⟩) 0 0) 0 [] none:=⟨((Fr.refl [] w).alloc _).alloc _,Sl.tight _ _ _ _,by simp,(Holds.new w 74 _).alloc _⟩
 have ha:=vG
 have hb1:=hb.fr G0.fr (Nat.le_refl _) (by simp)
 have q0:=G0.c0
 have q1:=G0.c1
 have hss:s.size<=maxLen:=by unfold maxLen;omega
 obtain⟨S,hS,hS0,hS1⟩:∃ S,cK k s.data.toList=S/\0<=S/\S<65536:=⟨_,rfl,fF _ _⟩
 have HS:=hid hS
 have hsum:=λW=>ns k s W hss
 simp only[hS] at hsum
 clear hS
 go_enter func15,ntmps15
 go_wp2_with (first
  | (at_builtin;first
   | (refine af rfl (.tmp 22) (.tmp 23) 69 rfl i5 _ 1 underlying69 hi hz0 hz1 hz2 rfl (by decide) _ _ rfl G0.sl a len cap (bc l) rfl (by simpa[eg] using hlen) hb1.cells (jh l) (by unfold maxLen;omega) (by omega) ?_;intro v1 w2 own1 hs1 hf1 ho1 hm1;have G1:=G0.next hs1 hf1 ho1;simp only[Nat.zero_add,List.nil_append] at G1;have d0:=G1.c0;have d1:=G1.c1;obtain⟨a1,cap1,rfl⟩:=G1.sl.form;clear hs1 hf1 ho1 hm1 G0 q0 q1 hb1)
   | (refine af rfl (.tmp 25) (.tmp 39) 69 rfl i5 _ 1 underlying69 hi hz0 hz1 hz2 rfl (by decide) _ _ rfl (G1.same ((Fr.refl [] w2).alloc _)).sl _ 4 4 _ rfl rfl (Cells.bO (Holds.new w2 5 #[.int .u8 ((s.size:Int) / 65536),.int .u8 ((s.size:Int) / 256 % 256),.int .u8 ((s.size:Int) % 256),.int .u8 k])) (by simp[Value.oneCell']) (by unfold maxLen;omega) (by omega) ?_;intro v2 w3 own2 hs2 hf2 ho2 hm2;obtain⟨g2,rfl⟩:=hm2 (by omega);have G2:=(G1.same ((Fr.refl [] w2).alloc _)).next hs2 hf2 ho2;have e0:=G2.c0;have e1:=G2.c1;obtain⟨a2,cap2,rfl⟩:=G2.sl.form;clear hs2 hf2 ho2 hm2 G1 d0 d1)
   | (refine Lib.wpList_append_own_string w3 rfl (.tmp 41) (.tmp 43) 69 9 rfl (w.heap.size+1) 5 i5 underlying69 underlying9 hi hz0 hz1 hz2 (.slice a2 (len+4) cap2) (len+4) _ rfl G2.owns s rfl (by unfold maxLen;omega) (by omega) G2.box.lt ?_;intro v3 w4 ho3 hg3 hn3;obtain⟨g3,c3,rfl,G3⟩:=G2.vY ho3 hg3 (λh=>by simpa using hn3.1 h);have e0':=G3.c0;have e1':=G3.c1;clear ho3 hg3 hn3 G2 e0 e1)
   | (refine af rfl (.tmp 50) (.tmp 57) 69 rfl i5 _ 1 underlying69 hi hz0 hz1 hz2 rfl (by decide) _ _ rfl (G3.same ((Fr.refl [] w4).alloc _)).sl _ 2 2 _ rfl rfl (Cells.bO (Holds.new w4 5 #[.int .u8 (S / 256),.int .u8 (S % 256)])) (by simp[Value.oneCell']) (by unfold maxLen;omega) (by omega) ?_;intro v4 w5 own4 hs4 hf4 ho4 hm4;obtain⟨g4,rfl⟩:=hm4 (by omega);have G4:=(G3.same ((Fr.refl [] w4).alloc _)).next hs4 hf4 ho4;obtain⟨c4,rfl,hr4⟩:=G4.sl.cI;clear hs4 hf4 ho4 hm4 G3))
  | (go_at_call 34;refine(hsum _).mono ?_;rintro e w' ⟨rfl,rfl⟩))
 go_ret2
 have e4:len+4+s.size+2=len+s.size+6:=by omega
 rw[e4] at hr4
 refine⟨g4,c4,by rw[<-e4];rfl,G4.new g4 (by simp),?_,G4.fr⟩
 have e5:(s.size:Int) / 256 % 256=s.size / 256:=by omega
 rw[e5] at hr4
 unfold putCells
 rw[HS]
 exact hr4
end Fm
open Go.RowKit Fm
def nb (n:Int):UInt8:=UInt8.ofNat n.toNat
theorem cd {n:Int}(h0:0<=n)(h1:n<=255):((nb n).toNat:Int)=n:=by
 unfold nb
 rw[UInt8.toNat_ofNat']
 omega
def BIn (w:World)(v:Value)(l:List UInt8):Prop:=∃ a n c,v = .slice a n c/\l.length=n/\dQ w w.heap.size a l
def ln (w0 w:World)(v:Value)(l:List UInt8):Prop:=∃ g c n,v = .slice (some ⟨g,0,none⟩) n c/\w0.heap.size<=g/\l.length=n/\Row w 5 1 g n c (bc l)
section
variable {w w0 w':World} {v:Value} {l:List UInt8}
theorem BIn.nil (w:World):BIn w (.slice none 0 0) []:=⟨none,0,0,rfl,rfl,λh=>by simp at h⟩
theorem BIn.fr (h:BIn w v l)(hf:Fr [] w w'):BIn w' v l:=by
 obtain⟨a,n,c,rfl,hn,hb⟩:=h
 refine⟨a,n,c,rfl,hn,λhp=>?_⟩
 obtain⟨b,off,ha,hlt,hc⟩:=hb hp
 exact⟨b,off,ha,Nat.lt_of_lt_of_le hlt hf.size,λk u hu=>hf.cell (hc k u hu) hlt (by simp)⟩
theorem oJ {g n c:Nat}(hr:Row w 5 1 g n c (bc l)):dQ w w.heap.size (some ⟨g,0,none⟩) l:=λ_=>⟨g,0,rfl,hr.lt,λk u hu=>by
 rw[Nat.zero_add]
 exact hr.cell (by simp[bc,hu])⟩
theorem ln.bin (h:ln w0 w v l):BIn w v l:=by
 obtain⟨g,c,n,rfl,_,hn,hr⟩:=h
 exact⟨_,_,_,rfl,hn,oJ hr⟩
theorem ln.fr (h:ln w0 w v l)(hf:Fr [] w w'):ln w0 w' v l:=by
 obtain⟨g,c,n,rfl,hg,hn,hr⟩:=h
 exact⟨g,c,n,rfl,hg,hn,hr.fr hf (by simp)⟩
end
section
variable {w w':World} {e:TypeId} {sz n:Nat} {v':Value} {xs:List Value} {own own':Option Nat} {B:Nat}
theorem mM (hs:Sl w' e sz v' n xs own')(ho:own'=own∨∃ g,own'=some g/\w.heap.size<=g)(hB:B<=w.heap.size)(h0:∀ g,own=some g->B<=g)(hm:∃ g,own'=some g) :
  ∃ g c,own'=some g/\v' = .slice (some ⟨g,0,none⟩) n c/\B<=g/\Row w' e sz g n c xs:=by
 obtain⟨g,rfl⟩:=hm
 obtain⟨c,rfl,hr⟩:=hs.cI
 refine⟨g,c,rfl,rfl,?_,hr⟩
 rcases ho with ho|⟨g',h1,h2⟩
 ·exact h0 g ho.symm
 cases h1
 omega
theorem bV {g0:Nat}(hs:Sl w' e sz v' n xs own')(ho:own'=some g0∨∃ g,own'=some g/\w.heap.size<=g)(hB:B<=w.heap.size)(h0:B<=g0) :
  ∃ g c,own'=some g/\v' = .slice (some ⟨g,0,none⟩) n c/\B<=g/\Row w' e sz g n c xs :=
 mM hs ho hB (λg h=>by cases h;exact h0) (by
  rcases ho with h|⟨g,h,_⟩
  ·exact⟨_,h⟩
  exact⟨_,h⟩)
end
section
variable {w w':World} {e:TypeId} {sz n m g c B:Nat} {v':Value} {xs ys:List Value}
theorem ml (h:Row w e sz g n c xs)(hB:B<=g):w.ownsRow B e sz (.slice (some ⟨g,0,none⟩) n c) n xs:=by
 obtain⟨cur,h1,h2,h3,h4,h5,h6⟩:=h
 exact⟨h6,.inr ⟨g,c,cur,rfl,hB,h1,h2,h3,h4,h5⟩⟩
theorem mh (ho:w'.ownsRow B e sz v' m ys)(hg:w.grownBy w' (Value.slice (some ⟨g,0,none⟩) n c).ownBlock)(hn:v'≠.slice none 0 0) :
  ∃ g' c',v' = .slice (some ⟨g',0,none⟩) m c'/\B<=g'/\Row w' e sz g' m c' ys/\Fr [g] w w':=by
 have hf:Fr [g] w w':=Fr.iF hg (λx hx=>by simp[Value.ownBlock] at hx;simp[hx])
 obtain⟨hl,⟨rfl,_⟩|⟨g',c',cur,rfl,hb,h1,h2,h3,h4,h5⟩⟩:=ho
 ·exact absurd rfl hn
 exact⟨g',c',rfl,hb,⟨cur,h1,h2,h3,h4,h5,hl⟩,hf⟩
theorem jv (s:ByteArray):Lib.strCells s=bc s.data.toList:=by simp[Lib.strCells,bc]
end
theorem sf (w:World)(n:Nat)(m:Int)(hm:m=n)(hn:n<=1000000) :
  ∃ w1,(Instr.makeSlice 69 (.int .i64 0) (.int .i64 m)).run prog w = .ok (.slice (some ⟨w.heap.size,0,none⟩) 0 n) w1/\Fr [] w w1/\Row w1 5 1 w.heap.size 0 n []:=by
 subst hm
 obtain⟨i5,hi,hz0,hz1,hz2⟩:=info_parts info5
 obtain⟨w1,hmk,hown,hgr⟩:=run_makeSlice_owned (P:=prog) w 0 69 5 i5 (.int .u8 0) 1 underlying69 hi hz0 hz1 .i64 .i64 n (by omega) (by rw[hz2];omega) (by unfold maxLen;omega) (Nat.zero_le _)
 refine⟨w1,hmk,Fr.iF hgr (λk hk=>by cases hk),?_⟩
 obtain⟨hx,⟨h0,_⟩|⟨g,c,cur,hv,hb,h1,h2,h3,h4,h5⟩⟩:=hown
 ·cases h0
 cases hv
 exact⟨cur,h1,h2,h3,h4,h5,hx⟩
namespace Pk
open Go.RowKit Fm
def beF:Nat->Nat->List UInt8
 | 0,_=>[]
 | f+1,n=>if n=0 then [] else beF f (n / 256)++[UInt8.ofNat (n % 256)]
def beL (n:Nat):List UInt8:=beF 8 n
def ed (n:Int):List UInt8:=if n<=247 then [nb n] else nb (247+((beL n.toNat).length:Int))::beL n.toNat
theorem nL {n:Int}(h:n<=247):ed n=[nb n]:=if_pos h
theorem sX:∀ f,beF f 0=[]
 | 0=>rfl
 | _+1=>rfl
theorem jV:∀ (f n:Nat),(beF f n).length<=f
 | 0,n=>by simp[beF]
 | f+1,n=>by
  rw[beF]
  split
  ·simp
  have:=jV f (n / 256)
  simp
  omega
theorem cH (n:Int):1<=(ed n).length/\(ed n).length<=9:=by
 unfold ed
 split
 ·simp
 have:=jV 8 n.toNat
 simp only[List.length_cons,beL]
 omega
theorem sY:∀ (f n k:Nat),n<256 ^ f->(k<(beF f n).length ↔ n / 256 ^ k≠0)
 | 0,n,k,h=>by
  have:n=0:=by simpa using h
  subst this
  simp[beF]
 | f+1,n,k,h=>by
  rw[beF]
  by_cases hn:n=0
  ·subst hn
   simp
  rw[if_neg hn]
  have h1:n / 256<256 ^ f:=by
   rw[Nat.div_lt_iff_lt_mul (by decide)]
   rw[Nat.pow_succ] at h
   exact h
  cases k with
  | zero=>simp[hn]
  | succ k =>
   have ih:=sY f (n / 256) k h1
   rw[Nat.div_div_eq_div_mul] at ih
   simp only[List.length_append,List.length_cons,List.length_nil]
   rw[Nat.pow_succ,Nat.mul_comm (256 ^ k) 256]
   rw[<-ih]
   omega
theorem wD:∀ (f n j:Nat),n<256 ^ f->j<(beF f n).length->(beF f n)[j]? = some (UInt8.ofNat (n / 256 ^ ((beF f n).length - 1 - j) % 256))
 | 0,n,j,h,hj=>by simp[beF] at hj
 | f+1,n,j,h,hj=>by
  by_cases hn:n=0
  ·subst hn
   simp[beF] at hj
  have h1:n / 256<256 ^ f:=by
   rw[Nat.div_lt_iff_lt_mul (by decide)]
   rw[Nat.pow_succ] at h
   exact h
  have e:beF (f+1) n=beF f (n / 256)++[UInt8.ofNat (n % 256)]:=by rw[beF,if_neg hn]
  rw[e] at hj ⊢
  simp only[List.length_append,List.length_cons,List.length_nil] at hj ⊢
  by_cases hl:j<(beF f (n / 256)).length
  ·rw[List.getElem?_append_left hl,wD f (n / 256) j h1 hl,Nat.div_div_eq_div_mul]
   congr 4
   rw[<-Nat.pow_succ']
   congr 1
   omega
  have hj2:j=(beF f (n / 256)).length:=by omega
  subst hj2
  simp
theorem wC:∀ (f n:Nat),n<256 ^ f->(beF f n).foldl (λu (c:UInt8)=>u*256+c.toNat) 0=n
 | 0,n,h=>by
  have:n=0:=by simpa using h
  subst this
  rfl
 | f+1,n,h=>by
  rw[beF]
  by_cases hn:n=0
  ·subst hn
   rfl
  rw[if_neg hn,List.foldl_append]
  have h1:n / 256<256 ^ f:=by
   rw[Nat.div_lt_iff_lt_mul (by decide)]
   rw[Nat.pow_succ] at h
   exact h
  rw[wC f (n / 256) h1]
  simp only[List.foldl_cons,List.foldl_nil,UInt8.toNat_ofNat']
  omega
theorem sZ:∀ (f n:Nat),n<256 ^ f->n≠0->∃ c r,beF f n=c::r/\c.toNat≠0
 | 0,n,h,hn=>by
  have:n=0:=by simpa using h
  exact absurd this hn
 | f+1,n,h,hn=>by
  rw[beF,if_neg hn]
  have h1:n / 256<256 ^ f:=by
   rw[Nat.div_lt_iff_lt_mul (by decide)]
   rw[Nat.pow_succ] at h
   exact h
  by_cases h0:n / 256=0
  ·rw[h0,sX]
   refine⟨_,_,rfl,?_⟩
   rw[UInt8.toNat_ofNat']
   omega
  obtain⟨c,r,e,hc⟩:=sZ f (n / 256) h1 h0
  exact⟨c,r++[UInt8.ofNat (n % 256)],by rw[e];rfl,hc⟩
end Pk
