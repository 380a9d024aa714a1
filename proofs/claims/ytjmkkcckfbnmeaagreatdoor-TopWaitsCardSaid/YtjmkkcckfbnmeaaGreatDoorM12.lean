/- Texts Put, Bytes, Pack, Read. -/
import Derived.Test.YtjmkkcckfbnmeaaGreatDoorM07
import Derived.Test.YtjmkkcckfbnmeaaGreatDoorM11
import Derived.Lib.AppendStr
set_option maxRecDepth 100000
set_option maxHeartbeats 8000000
set_option linter.all false
open Go.Lib (hid)
namespace Go.Proofs.YtjmkkcckfbnmeaaGreatDoor.Fm
open Go.RowKit
theorem info5 : (Tryz.prog.info? 5).map (fun i=>(i.zero,i.size,i.bytes))=some (some (.int .u8 0),1,1):=by kernel_rfl
def bc (l:List UInt8):List Value:=l.map fun c=>Value.int .u8 c.toNat
theorem bc_append (l m:List UInt8):bc (l++m)=bc l++bc m:=by simp[bc]
theorem bc_length (l:List UInt8):(bc l).length=l.length:=by simp[bc]
theorem bc_one (l:List UInt8):∀ u∈bc l,u.oneCell'=true:=by
 intro u hu
 simp only[bc,List.mem_map] at hu
 obtain⟨c,_,rfl⟩:=hu
 rfl
theorem BytesAt.cells {w:World}{B:Nat}{a:Option Addr}{l:List UInt8}(h:BytesAt w B a l):Cells w a (bc l):=fun j u hu=>by
 simp only[bc,List.getElem?_map,Option.map_eq_some_iff] at hu
 obtain⟨c,hc,rfl⟩:=hu
 have hj:j<l.length:=(List.getElem?_eq_some_iff.1 hc).1
 obtain⟨b,off,rfl,_,hk⟩:=h (by omega)
 exact⟨_,rfl,by rw[at_add];exact hk j c hc⟩
structure Got (w W:World)(T:TypeId)(k:Int)(s:ByteArray)(v:Value)(n:Nat)(xs:List Value)(own:Option Nat):Prop where
 fr:Fr [] w W
 sl:Sl W 5 1 v n xs own
 new:∀ g,g∈own.toList→w.heap.size<g
 box:Holds W w.heap.size T #[.int .i64 k,.string s]
section
variable {w W W':World} {T:TypeId} {k:Int} {s:ByteArray} {v v':Value} {n m:Nat} {xs ys:List Value} {own own':Option Nat}
theorem Got.c0 (h:Got w W T k s v n xs own):W.cell? ⟨w.heap.size,0,none⟩=some (.int .i64 k):=h.box.cell 0
theorem Got.c1 (h:Got w W T k s v n xs own):W.cell? ⟨w.heap.size,1,none⟩=some (.string s):=h.box.cell 1
theorem Got.same (h:Got w W T k s v n xs own)(hf:Fr [] W W'):Got w W' T k s v n xs own:=⟨h.fr.trans hf,h.sl.fr0 hf,h.new,h.box.fr hf (by simp)⟩
theorem Got.next (h:Got w W T k s v n xs own)(hs:Sl W' 5 1 v' m ys own')(hf:Fr own.toList W W')(ho:own'=own∨∃ g,own'=some g∧W.heap.size≤g):Got w W' T k s v' m ys own':=by
 refine⟨h.fr.step hf (fun x hx=>.inr (Nat.le_of_lt (h.new x hx))),hs,?_,h.box.fr hf (fun hx=>absurd (h.new _ hx) (by omega))⟩
 rcases ho with rfl|⟨g,rfl,hg⟩
 ·exact h.new
 ·have:=h.box.lt
  simp;omega
theorem Cells.of_holds {g t:Nat}{cs:Array Value}(h:Holds w g t cs):Cells w (some ⟨g,0,none⟩) cs.toList:=fun j u hu=>⟨_,rfl,by
 rw[at_add,Nat.zero_add,h.cell j]
 simpa using hu⟩
theorem Got.owns {g:Nat}(h:Got w W T k s v n xs (some g)):W.ownsRow (w.heap.size+1) 5 1 v n xs:=by
 obtain⟨c,rfl,cur,h1,h2,h3,h4,h5,h6⟩:=h.sl.own_row
 exact⟨h6,.inr ⟨g,c,cur,rfl,h.new g (by simp),h1,h2,h3,h4,h5⟩⟩
theorem Got.of_owns {g:Nat}(h:Got w W T k s v n xs (some g))(ho:W'.ownsRow (w.heap.size+1) 5 1 v' m ys)(hg:W.grownBy W' v.ownBlock)(hn:v'≠.slice none 0 0):∃ g' c',v' = .slice (some ⟨g',0,none⟩) m c'∧Got w W' T k s v' m ys (some g'):=by
 obtain⟨c,rfl,hr⟩:=h.sl.own_row
 have hf:Fr [g] W W':=Fr.of_grown hg (fun x hx=>by simp[Value.ownBlock] at hx;simp[hx])
 obtain⟨hl,⟨rfl,_⟩|⟨g',c',cur,rfl,hb,h1,h2,h3,h4,h5⟩⟩:=ho
 ·exact absurd rfl hn
 ·refine⟨g',c',rfl,h.fr.step hf (fun x hx=>.inr ?_),Sl.row ⟨cur,h1,h2,h3,h4,h5,hl⟩,fun x hx=>by simp at hx;omega,h.box.fr hf (fun hx=>?_)⟩
  ·simp at hx;subst hx;exact Nat.le_of_lt (h.new x (by simp))
  ·simp at hx;have:=h.new g (by simp);omega
end
theorem put_made (w:World)(k:Int)(s:ByteArray)(len:Nat)(hl:len≤100000)(hs:s.size≤20000) :
  ∃ w1,(Instr.makeSlice 90 (.int .i64 0) (.int .i64 ((len:Int)+s.size+6))).run Tryz.prog (w.alloc (.cells #[.int .i64 k,.string s] 136)) = .ok (.slice (some ⟨w.heap.size+1,0,none⟩) 0 (len+s.size+6)) w1 ∧
   Got w w1 136 k s (.slice (some ⟨w.heap.size+1,0,none⟩) 0 (len+s.size+6)) 0 [] (some (w.heap.size+1)):=by
 obtain⟨i5,hi,hz0,hz1,hz2⟩:=info_parts info5
 have fb:=(Fr.refl [] w).alloc (.cells #[.int .i64 k,.string s] 136)
 obtain⟨w1,hmk,hown,hgr⟩:=run_makeSlice_owned (P:=Tryz.prog) (w.alloc (.cells #[.int .i64 k,.string s] 136)) 0 90 5 i5 (.int .u8 0) 1 Tryz.underlying90 hi hz0 hz1 .i64 .i64 (len+s.size+6) (by omega) (by rw[hz2];omega) (by unfold maxLen;omega) (Nat.zero_le _)
 rw[show (((len+s.size+6:Nat)):Int)=(len:Int)+s.size+6 by omega] at hmk
 have f1:Fr [] w w1:=fb.trans (Fr.of_grown hgr (fun k hk=>by cases hk))
 have hsz:(w.alloc (.cells #[.int .i64 k,.string s] 136)).heap.size=w.heap.size+1:=by simp
 rw[hsz] at hmk hown
 refine⟨w1,hmk,f1,?_,by simp,(Holds.new w 136 _).fr (Fr.of_grown (S:=[]) hgr (fun k hk=>by cases hk)) (by simp)⟩
 obtain⟨hx,⟨h0,_⟩|⟨g,c,cur,hv,hb,h1,h2,h3,h4,h5⟩⟩:=hown
 ·cases h0
 ·cases hv
  exact Sl.row ⟨cur,h1,h2,h3,h4,h5,hx⟩
def putCells (l:List UInt8)(k:Int)(s:ByteArray):List Value :=
 bc l++[.int .u8 ((s.size:Int) / 65536),.int .u8 ((s.size:Int) / 256),.int .u8 ((s.size:Int) % 256),.int .u8 k]++Lib.strCells s++[.int .u8 (sumL k s.data.toList / 256),.int .u8 (sumL k s.data.toList % 256)]
theorem put_ok (w:World)(a:Option Addr)(len cap:Nat)(l:List UInt8)(hb:BytesAt w w.heap.size a l)(hlen:l.length=len)(hl:len≤100000)(k:Int)(s:ByteArray)(h0:0≤k)(h1:k≤255)(hs:s.size≤20000) :
  Calls Tryz.prog 75 #[.slice a len cap,.agg #[.int .i64 k,.string s]] w fun e w'=>∃ g c,e = .returned (.tuple #[.slice (some ⟨g,0,none⟩) (len+s.size+6) c,.int .i64 0])∧w.heap.size<g∧Row w' 5 1 g (len+s.size+6) c (putCells l k s)∧Fr [] w w':=by
 obtain⟨i5,hi,hz0,hz1,hz2⟩:=info_parts info5
 obtain⟨w1,hmk1,G0⟩:=put_made w k s len hl hs
 have hb1:=hb.fr G0.fr (Nat.le_refl _) (by simp)
 have q0:=G0.c0
 have q1:=G0.c1
 have hss:s.size≤maxLen:=by unfold maxLen;omega
 obtain⟨S,hS,hS0,hS1⟩:∃ S,sumL k s.data.toList=S∧0≤S∧S<65536:=⟨_,rfl,sumL_range _ _⟩
 have HS:=hid hS
 have hsum:=fun W=>sum_any k s W hss
 simp only[hS] at hsum
 clear hS
 go_enter Tryz.func75,Tryz.ntmps75
 go_wp2_with (first
  | (at_builtin;first
   | (refine wpList_append_sl rfl (.tmp 27) (.tmp 28) 90 rfl i5 _ 1 Tryz.underlying90 hi hz0 hz1 hz2 rfl (by decide) _ _ rfl G0.sl a len cap (bc l) rfl (by simpa[bc_length] using hlen) hb1.cells (bc_one l) (by unfold maxLen;omega) (by omega) ?_;intro v1 w2 own1 hs1 hf1 ho1 hm1;have G1:=G0.next hs1 hf1 ho1;simp only[Nat.zero_add,List.nil_append] at G1;have d0:=G1.c0;have d1:=G1.c1;obtain⟨a1,cap1,rfl⟩:=G1.sl.form;clear hs1 hf1 ho1 hm1 G0 q0 q1 hb1)
   | (refine wpList_append_sl rfl (.tmp 30) (.tmp 42) 90 rfl i5 _ 1 Tryz.underlying90 hi hz0 hz1 hz2 rfl (by decide) _ _ rfl (G1.same ((Fr.refl [] w2).alloc _)).sl _ 4 4 _ rfl rfl (Cells.of_holds (Holds.new w2 5 #[.int .u8 ((s.size:Int) / 65536),.int .u8 ((s.size:Int) / 256),.int .u8 ((s.size:Int) % 256),.int .u8 k])) (by simp[Value.oneCell']) (by unfold maxLen;omega) (by omega) ?_;intro v2 w3 own2 hs2 hf2 ho2 hm2;obtain⟨g2,rfl⟩:=hm2 (by omega);have G2:=(G1.same ((Fr.refl [] w2).alloc _)).next hs2 hf2 ho2;have e0:=G2.c0;have e1:=G2.c1;obtain⟨a2,cap2,rfl⟩:=G2.sl.form;clear hs2 hf2 ho2 hm2 G1 d0 d1)
   | (refine Lib.wpList_append_own_string w3 rfl (.tmp 44) (.tmp 46) 90 9 rfl (w.heap.size+1) 5 i5 Tryz.underlying90 Tryz.underlying9 hi hz0 hz1 hz2 (.slice a2 (len+4) cap2) (len+4) _ rfl G2.owns s rfl (by unfold maxLen;omega) (by omega) G2.box.lt ?_;intro v3 w4 ho3 hg3 hn3;obtain⟨g3,c3,rfl,G3⟩:=G2.of_owns ho3 hg3 (fun h=>by simpa using hn3.1 h);have e0':=G3.c0;have e1':=G3.c1;clear ho3 hg3 hn3 G2 e0 e1)
   | (refine wpList_append_sl rfl (.tmp 53) (.tmp 59) 90 rfl i5 _ 1 Tryz.underlying90 hi hz0 hz1 hz2 rfl (by decide) _ _ rfl (G3.same ((Fr.refl [] w4).alloc _)).sl _ 2 2 _ rfl rfl (Cells.of_holds (Holds.new w4 5 #[.int .u8 (S / 256),.int .u8 (S % 256)])) (by simp[Value.oneCell']) (by unfold maxLen;omega) (by omega) ?_;intro v4 w5 own4 hs4 hf4 ho4 hm4;obtain⟨g4,rfl⟩:=hm4 (by omega);have G4:=(G3.same ((Fr.refl [] w4).alloc _)).next hs4 hf4 ho4;obtain⟨c4,rfl,hr4⟩:=G4.sl.own_row;clear hs4 hf4 ho4 hm4 G3))
  | (go_at_call 121;refine(hsum _).mono ?_;rintro e w' ⟨rfl,rfl⟩))
 go_ret2
 have e4:len+4+s.size+2=len+s.size+6:=by omega
 rw[e4] at hr4
 refine⟨g4,c4,by rw[←e4];rfl,G4.new g4 (by simp),?_,G4.fr⟩
 unfold putCells
 rw[HS.out]
 exact hr4
theorem rput_ok (w:World)(a:Option Addr)(len cap:Nat)(l:List UInt8)(hb:BytesAt w w.heap.size a l)(hlen:l.length=len)(hl:len≤100000)(k:Int)(s:ByteArray)(h0:0≤k)(h1:k≤255)(hs:s.size≤20000) :
  Calls Tryz.prog 27 #[.slice a len cap,.agg #[.int .i64 k,.string s]] w fun e w'=>∃ g c,e = .returned (.tuple #[.slice (some ⟨g,0,none⟩) (len+s.size+6) c,.int .i64 0])∧w.heap.size<g∧Row w' 5 1 g (len+s.size+6) c (putCells l k s)∧Fr [] w w':=by
 obtain⟨i5,hi,hz0,hz1,hz2⟩:=info_parts info5
 have G0:Got w ((w.alloc (.cells #[.int .i64 k,.string s] 95)).alloc (.cells #[] 5))  95 k s (.slice (some ⟨w.heap.size+1,0,none⟩) 0 0) 0 [] none:=⟨((Fr.refl [] w).alloc _).alloc _,Sl.tight _ _ _ _,by simp,(Holds.new w 95 _).alloc _⟩
 have ha:=and255
 have hb1:=hb.fr G0.fr (Nat.le_refl _) (by simp)
 have q0:=G0.c0
 have q1:=G0.c1
 have hss:s.size≤maxLen:=by unfold maxLen;omega
 obtain⟨S,hS,hS0,hS1⟩:∃ S,sumL k s.data.toList=S∧0≤S∧S<65536:=⟨_,rfl,sumL_range _ _⟩
 have HS:=hid hS
 have hsum:=fun W=>rsum_any k s W hss
 simp only[hS] at hsum
 clear hS
 go_enter Tryz.func27,Tryz.ntmps27
 go_wp2_with (first
  | (at_builtin;first
   | (refine wpList_append_sl rfl (.tmp 22) (.tmp 23) 90 rfl i5 _ 1 Tryz.underlying90 hi hz0 hz1 hz2 rfl (by decide) _ _ rfl G0.sl a len cap (bc l) rfl (by simpa[bc_length] using hlen) hb1.cells (bc_one l) (by unfold maxLen;omega) (by omega) ?_;intro v1 w2 own1 hs1 hf1 ho1 hm1;have G1:=G0.next hs1 hf1 ho1;simp only[Nat.zero_add,List.nil_append] at G1;have d0:=G1.c0;have d1:=G1.c1;obtain⟨a1,cap1,rfl⟩:=G1.sl.form;clear hs1 hf1 ho1 hm1 G0 q0 q1 hb1)
   | (refine wpList_append_sl rfl (.tmp 25) (.tmp 39) 90 rfl i5 _ 1 Tryz.underlying90 hi hz0 hz1 hz2 rfl (by decide) _ _ rfl (G1.same ((Fr.refl [] w2).alloc _)).sl _ 4 4 _ rfl rfl (Cells.of_holds (Holds.new w2 5 #[.int .u8 ((s.size:Int) / 65536),.int .u8 ((s.size:Int) / 256 % 256),.int .u8 ((s.size:Int) % 256),.int .u8 k])) (by simp[Value.oneCell']) (by unfold maxLen;omega) (by omega) ?_;intro v2 w3 own2 hs2 hf2 ho2 hm2;obtain⟨g2,rfl⟩:=hm2 (by omega);have G2:=(G1.same ((Fr.refl [] w2).alloc _)).next hs2 hf2 ho2;have e0:=G2.c0;have e1:=G2.c1;obtain⟨a2,cap2,rfl⟩:=G2.sl.form;clear hs2 hf2 ho2 hm2 G1 d0 d1)
   | (refine Lib.wpList_append_own_string w3 rfl (.tmp 41) (.tmp 43) 90 9 rfl (w.heap.size+1) 5 i5 Tryz.underlying90 Tryz.underlying9 hi hz0 hz1 hz2 (.slice a2 (len+4) cap2) (len+4) _ rfl G2.owns s rfl (by unfold maxLen;omega) (by omega) G2.box.lt ?_;intro v3 w4 ho3 hg3 hn3;obtain⟨g3,c3,rfl,G3⟩:=G2.of_owns ho3 hg3 (fun h=>by simpa using hn3.1 h);have e0':=G3.c0;have e1':=G3.c1;clear ho3 hg3 hn3 G2 e0 e1)
   | (refine wpList_append_sl rfl (.tmp 50) (.tmp 57) 90 rfl i5 _ 1 Tryz.underlying90 hi hz0 hz1 hz2 rfl (by decide) _ _ rfl (G3.same ((Fr.refl [] w4).alloc _)).sl _ 2 2 _ rfl rfl (Cells.of_holds (Holds.new w4 5 #[.int .u8 (S / 256),.int .u8 (S % 256)])) (by simp[Value.oneCell']) (by unfold maxLen;omega) (by omega) ?_;intro v4 w5 own4 hs4 hf4 ho4 hm4;obtain⟨g4,rfl⟩:=hm4 (by omega);have G4:=(G3.same ((Fr.refl [] w4).alloc _)).next hs4 hf4 ho4;obtain⟨c4,rfl,hr4⟩:=G4.sl.own_row;clear hs4 hf4 ho4 hm4 G3))
  | (go_at_call 58;refine(hsum _).mono ?_;rintro e w' ⟨rfl,rfl⟩))
 go_ret2
 have e4:len+4+s.size+2=len+s.size+6:=by omega
 rw[e4] at hr4
 refine⟨g4,c4,by rw[←e4];rfl,G4.new g4 (by simp),?_,G4.fr⟩
 have e5:(s.size:Int) / 256 % 256=s.size / 256:=by omega
 rw[e5] at hr4
 unfold putCells
 rw[HS.out]
 exact hr4
end Go.Proofs.YtjmkkcckfbnmeaaGreatDoor.Fm
namespace Go.Proofs.YtjmkkcckfbnmeaaGreatDoor
open Go.RowKit Fm
def nb (n:Int):UInt8:=UInt8.ofNat n.toNat
theorem nb_toNat {n:Int}(h0:0≤n)(h1:n≤255):((nb n).toNat:Int)=n:=by
 unfold nb
 rw[UInt8.toNat_ofNat']
 omega
def BIn (w:World)(v:Value)(l:List UInt8):Prop:=∃ a n c,v = .slice a n c∧l.length=n∧BytesAt w w.heap.size a l
def BOut (w0 w:World)(v:Value)(l:List UInt8):Prop:=∃ g c n,v = .slice (some ⟨g,0,none⟩) n c∧w0.heap.size≤g∧l.length=n∧Row w 5 1 g n c (bc l)
section
variable {w w0 w':World} {v:Value} {l:List UInt8}
theorem BIn.nil (w:World):BIn w (.slice none 0 0) []:=⟨none,0,0,rfl,rfl,fun h=>by simp at h⟩
theorem BIn.fr (h:BIn w v l)(hf:Fr [] w w'):BIn w' v l:=by
 obtain⟨a,n,c,rfl,hn,hb⟩:=h
 refine⟨a,n,c,rfl,hn,fun hp=>?_⟩
 obtain⟨b,off,ha,hlt,hc⟩:=hb hp
 exact⟨b,off,ha,Nat.lt_of_lt_of_le hlt hf.size,fun k u hu=>hf.cell (hc k u hu) hlt (by simp)⟩
theorem row_bytes {g n c:Nat}(hr:Row w 5 1 g n c (bc l)):BytesAt w w.heap.size (some ⟨g,0,none⟩) l:=fun _=>⟨g,0,rfl,hr.lt,fun k u hu=>by
 rw[Nat.zero_add]
 exact hr.cell (by simp[bc,hu])⟩
theorem BOut.bin (h:BOut w0 w v l):BIn w v l:=by
 obtain⟨g,c,n,rfl,_,hn,hr⟩:=h
 exact⟨_,_,_,rfl,hn,row_bytes hr⟩
theorem BOut.fr (h:BOut w0 w v l)(hf:Fr [] w w'):BOut w0 w' v l:=by
 obtain⟨g,c,n,rfl,hg,hn,hr⟩:=h
 exact⟨g,c,n,rfl,hg,hn,hr.fr hf (by simp)⟩
end
section
variable {w w':World} {e:TypeId} {sz n:Nat} {v':Value} {xs:List Value} {own own':Option Nat} {B:Nat}
theorem got_row (hs:Sl w' e sz v' n xs own')(ho:own'=own∨∃ g,own'=some g∧w.heap.size≤g)(hB:B≤w.heap.size)(h0:∀ g,own=some g→B≤g)(hm:∃ g,own'=some g) :
  ∃ g c,own'=some g∧v' = .slice (some ⟨g,0,none⟩) n c∧B≤g∧Row w' e sz g n c xs:=by
 obtain⟨g,rfl⟩:=hm
 obtain⟨c,rfl,hr⟩:=hs.own_row
 refine⟨g,c,rfl,rfl,?_,hr⟩
 rcases ho with ho|⟨g',h1,h2⟩
 ·exact h0 g ho.symm
 ·cases h1
  omega
theorem got_some {g0:Nat}(hs:Sl w' e sz v' n xs own')(ho:own'=some g0∨∃ g,own'=some g∧w.heap.size≤g)(hB:B≤w.heap.size)(h0:B≤g0) :
  ∃ g c,own'=some g∧v' = .slice (some ⟨g,0,none⟩) n c∧B≤g∧Row w' e sz g n c xs :=
 got_row hs ho hB (fun g h=>by cases h;exact h0) (by
  rcases ho with h|⟨g,h,_⟩
  ·exact⟨_,h⟩
  ·exact⟨_,h⟩)
end
section
variable {w w':World} {e:TypeId} {sz n m g c B:Nat} {v':Value} {xs ys:List Value}
theorem owns_of_row (h:Row w e sz g n c xs)(hB:B≤g):w.ownsRow B e sz (.slice (some ⟨g,0,none⟩) n c) n xs:=by
 obtain⟨cur,h1,h2,h3,h4,h5,h6⟩:=h
 exact⟨h6,.inr ⟨g,c,cur,rfl,hB,h1,h2,h3,h4,h5⟩⟩
theorem row_of_owns (ho:w'.ownsRow B e sz v' m ys)(hg:w.grownBy w' (Value.slice (some ⟨g,0,none⟩) n c).ownBlock)(hn:v'≠.slice none 0 0) :
  ∃ g' c',v' = .slice (some ⟨g',0,none⟩) m c'∧B≤g'∧Row w' e sz g' m c' ys∧Fr [g] w w':=by
 have hf:Fr [g] w w':=Fr.of_grown hg (fun x hx=>by simp[Value.ownBlock] at hx;simp[hx])
 obtain⟨hl,⟨rfl,_⟩|⟨g',c',cur,rfl,hb,h1,h2,h3,h4,h5⟩⟩:=ho
 ·exact absurd rfl hn
 ·exact⟨g',c',rfl,hb,⟨cur,h1,h2,h3,h4,h5,hl⟩,hf⟩
theorem strCells_bc (s:ByteArray):Lib.strCells s=bc s.data.toList:=by simp[Lib.strCells,bc]
end
theorem mk_bytes (w:World)(n:Nat)(m:Int)(hm:m=n)(hn:n≤1000000) :
  ∃ w1,(Instr.makeSlice 90 (.int .i64 0) (.int .i64 m)).run Tryz.prog w = .ok (.slice (some ⟨w.heap.size,0,none⟩) 0 n) w1∧Fr [] w w1∧Row w1 5 1 w.heap.size 0 n []:=by
 subst hm
 obtain⟨i5,hi,hz0,hz1,hz2⟩:=info_parts info5
 obtain⟨w1,hmk,hown,hgr⟩:=run_makeSlice_owned (P:=Tryz.prog) w 0 90 5 i5 (.int .u8 0) 1 Tryz.underlying90 hi hz0 hz1 .i64 .i64 n (by omega) (by rw[hz2];omega) (by unfold maxLen;omega) (Nat.zero_le _)
 refine⟨w1,hmk,Fr.of_grown hgr (fun k hk=>by cases hk),?_⟩
 obtain⟨hx,⟨h0,_⟩|⟨g,c,cur,hv,hb,h1,h2,h3,h4,h5⟩⟩:=hown
 ·cases h0
 ·cases hv
  exact⟨cur,h1,h2,h3,h4,h5,hx⟩
end Go.Proofs.YtjmkkcckfbnmeaaGreatDoor
namespace Go.Proofs.YtjmkkcckfbnmeaaGreatDoor.Pk
open Go.RowKit Fm
theorem byte_cell (n:Int)(h0:0≤n)(h1:n≤255):[Value.int .u8 n]=bc [nb n]:=by simp[bc,nb_toNat h0 h1]
theorem num_any (w:World)(v:Value)(l:List UInt8)(n:Int)(h:BIn w v l)(hl:l.length≤100000)(h0:0≤n)(h1:n≤247) :
  Calls Tryz.prog 180 #[v,.int .i64 n] w fun e w'=>∃ v',e = .returned v'∧BOut w w' v' (l++[nb n])∧Fr [] w w':=by
 obtain⟨i5,hi,hz0,hz1,hz2⟩:=info_parts info5
 obtain⟨a,m,c,rfl,hm,hb⟩:=h
 rw[hm] at hl
 obtain⟨w1,hmk,f1,r1⟩:=mk_bytes w (m+9) ((m:Int)+9) (by omega) (by omega)
 have hb1:=hb.fr f1 (Nat.le_refl _) (by simp)
 have hcell:=hid (byte_cell n h0 (by omega))
 have hg1:=r1.lt
 go_enter Tryz.func180,Tryz.ntmps180
 go_wp2_with (at_builtin;first
  | (refine wpList_append_sl rfl (.tmp 11) (.tmp 12) 90 rfl i5 _ 1 Tryz.underlying90 hi hz0 hz1 hz2 rfl (by decide) _ _ rfl (Sl.row r1) a m c (bc l) rfl (by simp[bc_length,hm]) hb1.cells (bc_one l) (by unfold maxLen;omega) (by omega) ?_;intro v1 w2 own1 hs1 hf1 ho1 hm1;obtain⟨g1,c1,rfl,rfl,hg2,r2⟩:=got_some (B:=w.heap.size) hs1 ho1 f1.size (Nat.le_refl _);have k2:=hf1.size;have f2:Fr [] w w2:=f1.step hf1 (by simp);simp only[Nat.zero_add,List.nil_append] at r2)
  | (refine wpList_append_sl rfl (.tmp 19) (.tmp 22) 90 rfl i5 _ 1 Tryz.underlying90 hi hz0 hz1 hz2 rfl (by decide) _ _ rfl ((Sl.row r2).fr0 ((Fr.refl [] w2).alloc _)) _ 1 1 [.int .u8 n] rfl rfl (Cells.one (Holds.new w2 5 #[.int .u8 n])) (by simp[Value.oneCell']) (by unfold maxLen;omega) (by omega) ?_;intro v2 w3 own2 hs2 hf2 ho2 hm2;obtain⟨g2,c2,rfl,rfl,hg3,r3⟩:=got_some (B:=w.heap.size) hs2 ho2 (by simp;omega) hg2))
 go_ret
 rw[hcell.out,←bc_append] at r3
 exact⟨_,rfl,⟨g2,c2,_,rfl,hg3,by simp[hm],r3⟩,(f2.alloc _).step hf2 (by simpa using hg2)⟩
def txt (s:ByteArray):List UInt8:=nb s.size::s.data.toList
theorem text_any (w:World)(v:Value)(l:List UInt8)(s:ByteArray)(h:BIn w v l)(hl:l.length≤90000)(h1:s.size≤247) :
  Calls Tryz.prog 181 #[v,.string s] w fun e w'=>∃ v',e = .returned v'∧BOut w w' v' (l++txt s)∧Fr [] w w':=by
 obtain⟨i5,hi,hz0,hz1,hz2⟩:=info_parts info5
 have hms:s.size≤maxLen:=by unfold maxLen;omega
 go_enter Tryz.func181,Tryz.ntmps181
 go_wp2_with (first
  | (at_builtin;(refine Lib.wpList_append_own_string w1 rfl (.tmp 8) (.tmp 9) 90 9 rfl w.heap.size 5 i5 Tryz.underlying90 Tryz.underlying9 hi hz0 hz1 hz2 (.slice (some ⟨g,0,none⟩) n c) n _ rfl (owns_of_row hr hg) s rfl (by unfold maxLen;omega) (by omega) f1.size ?_;intro v3 w4 ho3 hg3 hn3;obtain⟨g3,c3,rfl,hb3,hr3,f3⟩:=row_of_owns ho3 hg3 (fun h=>by simpa using hn3.1 h)))
  | (go_at_call 180;refine(num_any w v l s.size h (by omega) (by omega) (by omega)).mono ?_;rintro e w1 ⟨v',rfl,⟨g,c,n,rfl,hg,hn,hr⟩,f1⟩;have hn':n≤90001:=by simp at hn;omega))
 go_ret
 rw[strCells_bc,←bc_append] at hr3
 refine⟨_,rfl,⟨g3,c3,_,rfl,hb3,by simp[txt,←hn];omega,?_⟩,f1.step f3 (by simpa using hg)⟩
 simpa[txt] using hr3
end Go.Proofs.YtjmkkcckfbnmeaaGreatDoor.Pk
namespace Go.Proofs.YtjmkkcckfbnmeaaGreatDoor.Pk
open Go.RowKit Fm
def RdAt (w:World)(r:Nat)(rest:List UInt8):Prop :=
 ∃ (l:List UInt8) (k g c n:Nat),Holds w r 283 #[.slice (some ⟨g,0,none⟩) n c,.int .i64 k,.int .i64 0]∧l.length=n∧n≤100000∧k≤n∧l.drop k=rest∧Row w 5 1 g n c (bc l)
theorem RdAt.fr {w w':World}{r:Nat}{rest:List UInt8}(h:RdAt w r rest)(hf:Fr [] w w'):RdAt w' r rest:=by
 obtain⟨l,k,g,c,n,hp,hn,hn',hk,hd,hr⟩:=h
 exact⟨l,k,g,c,n,hp.fr hf (by simp),hn,hn',hk,hd,hr.fr hf (by simp)⟩
theorem read_any (w:World)(v:Value)(l:List UInt8)(h:BIn w v l)(hl:l.length≤100000) :
  Calls Tryz.prog 138 #[v] w fun e w'=>∃ r,e = .returned (.pointer (some ⟨r,0,none⟩))∧RdAt w' r l∧w.heap.size≤r∧Fr [] w w':=by
 obtain⟨i5,hi,hz0,hz1,hz2⟩:=info_parts info5
 obtain⟨a,n,c,rfl,hn,hb⟩:=h
 rw[hn] at hl
 have f0:Fr [] w (w.alloc (.cells #[] 5)):=(Fr.refl [] w).alloc _
 have r0:Row (w.alloc (.cells #[] 5)) 5 1 w.heap.size 0 0 []:=Row.new w #[] (by simp) (by decide)
 have hb1:=hb.fr f0 (Nat.le_refl _) (by simp)
 go_enter Tryz.func138,Tryz.ntmps138
 go_wp2_with (at_builtin;(refine wpList_append_sl rfl (.tmp 3) (.tmp 4) 90 rfl i5 _ 1 Tryz.underlying90 hi hz0 hz1 hz2 rfl (by decide) _ _ rfl (Sl.row r0) a n c (bc l) rfl (by simp[bc_length,hn]) hb1.cells (bc_one l) (by unfold maxLen;omega) (by omega) ?_;intro v1 w2 own1 hs1 hf1 ho1 hm1;obtain⟨g1,c1,rfl,rfl,hg2,r2⟩:=got_some (B:=w.heap.size) hs1 ho1 f0.size (Nat.le_refl _);have f2:Fr [] w w2:=f0.step hf1 (by simp);simp only[Nat.zero_add,List.nil_append] at r2))
 go_ret
 refine⟨_,rfl,⟨l,0,g1,c1,n,by simpa using Holds.new w2 _ _,hn,hl,Nat.zero_le _,rfl,r2.alloc _⟩,f2.size,f2.alloc _⟩
theorem drop_head {l rest:List UInt8}{k:Nat}{u:UInt8}(h:l.drop k=u::rest):k<l.length∧l[k]? = some u∧l.drop (k+1)=rest:=by
 have hk:k<l.length:=by
  rcases Nat.lt_or_ge k l.length with h'|h'
  ·exact h'
  ·rw[List.drop_of_length_le h'] at h
   cases h
 rw[List.drop_eq_getElem_cons hk] at h
 injection h with h1 h2
 exact⟨hk,by rw[List.getElem?_eq_getElem hk,h1],h2⟩
theorem number_any (w:World)(r:Nat)(l:List UInt8)(k g c n:Nat)(u:UInt8)(hp:Holds w r 283 #[.slice (some ⟨g,0,none⟩) n c,.int .i64 k,.int .i64 0])(hn:l.length=n)(hn':n≤100000)(hr:Row w 5 1 g n c (bc l))(hu:l[k]? = some u)(hu1:u.toNat≤247) :
  Calls Tryz.prog 191 #[.pointer (some ⟨r,0,none⟩),.int .i64 k] w fun e w'=>e = .returned (.tuple #[.int .i64 u.toNat,.int .i64 ((k:Int)+1),.int .i64 0])∧w=w':=by
 have c0:=hp.cell 0
 have hk:k<n:=by rw[←hn];exact(List.getElem?_eq_some_iff.1 hu).1
 have hc:w.cell? ⟨g,k,none⟩=some (.int .u8 u.toNat):=hr.cell (by simp[bc,hu])
 have hub:(u.toNat:Int)≤247:=by omega
 clear hu hr
 go_enter Tryz.func191,Tryz.ntmps191
 go_wp2
 go_ret3
 exact⟨rfl,rfl⟩
theorem rnum_any (w:World)(r:Nat)(u:UInt8)(rest:List UInt8)(h:RdAt w r (u::rest))(hu1:u.toNat≤247) :
  Calls Tryz.prog 142 #[.pointer (some ⟨r,0,none⟩)] w fun e w'=>e = .returned (.int .i64 u.toNat)∧RdAt w' r rest∧Fr [r] w w':=by
 obtain⟨l,k,g,c,n,hp,hn,hn',hk,hd,hr⟩:=h
 obtain⟨hk1,hu,hd1⟩:=drop_head hd
 have c1:=hp.cell 1
 have c2:=hp.cell 2
 have f1:=hp.frozen 1
 rw[hn] at hk1
 have hgr:=hr.ne hp (by decide)
 go_enter Tryz.func142,Tryz.ntmps142
 go_wp2_with (go_at_call 191;refine(number_any w r l k g c n u hp hn hn' hr hu hu1).mono ?_;rintro e w' ⟨rfl,rfl⟩)
 go_ret
 have hp2:=hp.set 1 (.int .i64 ((k:Int)+1))
 exact⟨rfl,⟨l,k+1,g,c,n,by simpa using hp2,hn,hn',hk1,hd1,hr.far hgr _⟩,(Fr.refl _ _).setCell (by simp) _⟩
theorem extract_bytes {w:World}{g n c:Nat}{l:List UInt8}(hr:Row w 5 1 g n c (bc l))(s:ByteArray)(k:Nat){rest:List UInt8}(hd:l.drop k=s.data.toList++rest) :
  ∀ (j:Nat) (x:UInt8),s.data.toList[j]? = some x→w.cell? ⟨g,k+j,none⟩=some (.int .u8 x.toNat):=fun j x hx=>by
 have:l[k+j]? = some x:=by
  rw[←List.getElem?_drop,hd,List.getElem?_append_left (List.getElem?_eq_some_iff.1 hx).1]
  exact hx
 exact hr.cell (by simp[bc,this])
theorem rtext_any (w:World)(r:Nat)(s:ByteArray)(rest:List UInt8)(h:RdAt w r (txt s++rest))(hs:s.size≤247)(h0:0<s.size) :
  Calls Tryz.prog 190 #[.pointer (some ⟨r,0,none⟩),.int .i64 20000] w fun e w'=>e = .returned (.string s)∧RdAt w' r rest∧Fr [r] w w':=by
 obtain⟨l,k,g,c,n,hp,hn,hn',hk,hd,hr⟩:=h
 obtain⟨hk1,hu,hd1⟩:=drop_head (l:=l) (k:=k) (u:=nb s.size) (rest:=s.data.toList++rest) (by simpa[txt] using hd)
 have hnb:=nb_toNat (n:=s.size) (by omega) (by omega)
 have hnbn:(nb s.size).toNat=s.size:=by omega
 have c0:=hp.cell 0
 have c1:=hp.cell 1
 have c2:=hp.cell 2
 have f1:=hp.frozen 1
 rw[hn] at hk1
 have hgr:=hr.ne hp (by decide)
 have hlen:k+1+s.size≤n:=by
  have:=congrArg List.length hd1
  simp only[List.length_drop,List.length_append,hn] at this
  have e:s.data.toList.length=s.size:=by simp
  omega
 have hd2:l.drop (k+1+s.size)=rest:=by
  rw[←List.drop_drop,hd1]
  exact List.drop_left' (by simp)
 have hlen2:(s.size:Int)≤(n:Int) - ((k:Int)+1):=by omega
 have hcap:=hr.le
 have hk2:k+1≤k+1+s.size:=by omega
 have H3:=hid hd
 have H1:=hid hd1
 have H2:=hid hd2
 clear hd hd1 hd2
 go_enter Tryz.func190,Tryz.ntmps190
 go_wp2_with (go_at_call 191;refine(number_any w r l k g c n (nb s.size) hp hn hn' hr hu (by omega)).mono ?_;rintro e w' ⟨rfl,rfl⟩;rw[hnb])
 generalize hW:w.setCell { block:=r,off:=1 } (Value.int IntKind.i64 ((k:Int)+1+s.size))=W
 have hp2:Holds W r 283 #[.slice (some ⟨g,0,none⟩) n c,.int .i64 ((k:Int)+1+s.size),.int .i64 0]:=by rw[←hW];simpa using hp.set 1 (.int .i64 ((k:Int)+1+s.size))
 have hr2:Row W 5 1 g n c (bc l):=by rw[←hW];exact hr.far hgr _
 have fW:Fr [r] w W:=by rw[←hW];exact(Fr.refl _ _).setCell (by simp) _
 have hconv:∀ (j m c':Nat),m=s.size→(convert 90 9 (.slice (some ⟨g,k+1,none⟩) m c')).run Tryz.prog (W.drewN j) = .ok (.string s) (W.drewN j):=fun j m c' hm=>conv_body (W.drewN j) g (k+1) m c' s hm.symm (extract_bytes (hr2.drewN j) s (k+1) H1.out)
 have d0:=hp2.cell 0
 have d1:=hp2.cell 1
 clear hW hu c0 c1 c2 f1
 go_quiet (fail)
 go_wp2
 go_ret
 exact⟨rfl,⟨l,k+1+s.size,g,c,n,by simpa using hp2.drewN _,hn,hn',hlen,H2.out,hr2.drewN _⟩,fW.drewN _⟩
theorem err_any (w:World)(r:Nat)(rest:List UInt8)(h:RdAt w r rest) :
  Calls Tryz.prog 144 #[.pointer (some ⟨r,0,none⟩)] w fun e w'=>e = .returned (.int .i64 0)∧w=w':=by
 obtain⟨l,k,g,c,n,hp,hn,hn',hk,hd,hr⟩:=h
 have c2:=hp.cell 2
 clear hd
 go_enter Tryz.func144,Tryz.ntmps144
 go_wp2
 go_ret
 exact⟨rfl,rfl⟩
theorem left_any (w:World)(r:Nat)(h:RdAt w r []) :
  Calls Tryz.prog 145 #[.pointer (some ⟨r,0,none⟩)] w fun e w'=>e = .returned (.int .i64 0)∧∃ n,w'=w.drewN n:=by
 obtain⟨l,k,g,c,n,hp,hn,hn',hk,hd,hr⟩:=h
 have hk2:n≤k:=by
  have:=congrArg List.length hd
  simp[hn] at this
  omega
 obtain rfl:k=n:=by omega
 have c0:=hp.cell 0
 have c1:=hp.cell 1
 clear hd
 go_enter Tryz.func145,Tryz.ntmps145
 go_wp2
 go_quiet (fail)
 go_wp2
 go_ret
 exact⟨rfl,_,rfl⟩
end Go.Proofs.YtjmkkcckfbnmeaaGreatDoor.Pk
