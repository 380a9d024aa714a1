/- Walks. -/
import Derived.Test.YtocppjcocnckmaaGreatDoorM15
import Derived.Test.YtocppjcocnckmaaGreatDoorM30
import Derived.Deep.QuietTactic
import Derived.BigQuiet
import Derived.BigRegionIn
set_option maxRecDepth 100000
set_option maxHeartbeats 8000000
set_option linter.all false
open Go.Lib (hid)
namespace Go.Proofs.YtocppjcocnckmaaGreatDoor
open Go.Proofs.Tryz
open Go.RowKit Go.Shelf
structure Kx (n₁ C:Nat)(W W':World):Prop where
 os:W'.os=W.os
 tape:W'.tape=W.tape
 output:W'.output=W.output
 size:W.heap.size<=W'.heap.size
 block:∀ k,k<n₁->k≠C->W'.heap[k]? = W.heap[k]?
theorem Kx.refl (n₁ C:Nat)(W:World):Kx n₁ C W W:=⟨rfl,rfl,rfl,Nat.le_refl _,λ_ _ _=>rfl⟩
theorem Kx.trans {n₁ C:Nat}{W W' W'':World}(h:Kx n₁ C W W')(k:Kx n₁ C W' W''):Kx n₁ C W W'' :=
 ⟨k.os.trans h.os,k.tape.trans h.tape,k.output.trans h.output,Nat.le_trans h.size k.size,λi a b=>(k.block i a b).trans (h.block i a b)⟩
theorem Kx.bY {n₁ C:Nat}{W W':World}(h:Fr [] W W')(hn:n₁<=W.heap.size):Kx n₁ C W W' :=
 ⟨h.os,h.tape,h.output,h.size,λk hk _=>h.block k (by omega) (by simp)⟩
theorem Kx.cell {n₁ C:Nat}{W W':World}(h:Kx n₁ C W W'){b o:Nat}(hb:b<n₁)(hC:b≠C):W'.cell? ⟨b,o,none⟩=W.cell? ⟨b,o,none⟩:=World.cell?_of_block (h.block b hb hC)
theorem sA {W W':World}(h:Fr [] W W'):W.grownBy W' none:=⟨h.os,h.tape,h.output,h.size,λk hk _=>h.block k hk (by simp)⟩
theorem ma {β:Type}{D:Nat}{J:β->World->Prop}(hJ:AbidesFrom D J){s:β}{W W':World}(h:J s W)(hf:Fr [] W W'):J s W':=hJ s W W' none h (sA hf) (by simp)
theorem sB {W W':World}(h:Below W.heap.size W W'):Fr [] W W':=⟨h.os,h.tape,h.output,h.size,λk hk _=>h.block k hk⟩
theorem Fr.ob {W W':World}(h:Fr [] W W'){b o:Nat}(hb:b<W.heap.size):W'.cell? ⟨b,o,none⟩=W.cell? ⟨b,o,none⟩:=World.cell?_of_block (h.block b hb (by simp))
theorem mR {e:Ending}{A C:Prop}(h:(e = .returned (.bool true)/\A)∨(e = .returned (.bool false)/\C)):∃ b:Bool,e = .returned (.bool b)/\((b=true/\A)∨(b=false/\C)):=by
 rcases h with⟨h,a⟩|⟨h,a⟩
 ·exact⟨true,h,.inl ⟨rfl,a⟩⟩
 exact⟨false,h,.inr ⟨rfl,a⟩⟩
theorem Az (s p:ByteArray)(w:World)(h1:p.size<=s.size)(h2:s.extract 0 p.size=p) :
  Calls prog 275 #[.string s,.string p] w λe w'=>e = .returned (.bool true)/\w=w':=by
 have h3:(p.size:Int)<=(s.size:Int):=by omega
 go_enter func275,ntmps275
 go_wp2
 go_ret
 simp[h2]
theorem C8 (s p:ByteArray)(w:World)(h1:p.size<=s.size)(h2:s.extract 0 p.size=p) :
  Calls prog 239 #[.string s,.string p] w λe w'=>e = .returned (.bool true)/\w=w':=by
 go_enter func239,ntmps239
 go_wp2_with fail
 refine(Az s p w h1 h2).mono ?_
 rintro e w' ⟨rfl,rfl⟩
 go_wp2_with fail
 go_ret
 exact⟨rfl,rfl⟩
namespace Oc
open Go.RowKit Go.Shelf
def enc (x:Ent):Array Value:=#[.string x.1,.agg #[.int .i64 x.2.1,.string x.2.2]]
theorem zG (n:Nat)(hn:1<=n)(l B Bm Bp r n₁ C D:Nat)(L:List Ent)(p:ByteArray)(J Jx:List Ent->World->Prop)(hJ:AbidesFrom D J)
  (hpre:∀ x∈L,p.size<=x.1.size/\x.1.extract 0 p.size=p) (hidx:idx (keys L) p=0)
  (hY:∀ pre x W1,J pre W1->pre.length<L.length->YieldAt Fence.wide (n - 1) prog l (enc x) W1 λe W'=>(e = .returned (.bool true)/\J (pre++[x]) W'/\Kx n₁ C W1 W')∨(e = .returned (.bool false)/\Jx (pre++[x]) W'))
  (W:World) (hM:aQ W B r L) (hm:W.cell? ⟨Bm,0,none⟩=some (.pointer (some ⟨r,0,none⟩))) (hp:W.cell? ⟨Bp,0,none⟩=some (.string p)) (hW:n₁<=W.heap.size) (hb1:Bm<n₁/\Bm≠C) (hb2:Bp<n₁/\Bp≠C) (hb3:r<n₁/\r≠C)
  (hb4:∀ v g,W.cell? ⟨r,0,none⟩=some v->ay v=some g->g<n₁/\g≠C) (h0:J [] W) :
  CallsIn Fence.wide n prog 340 #[.func (.yield l) #[] #[],.pointer (some ⟨Bm,0,none⟩),.pointer (some ⟨Bp,0,none⟩)] W λe W'=>(∃ v,e = .returned v)/\((∃ xs,xs=L/\J xs W')∨(∃ pre,True/\Jx pre W')):=by
 have HFI:=hid (bp W B r L p hM)
 have hlen:=hM.len
 obtain⟨v,q1,q2⟩:=hM.at_
 obtain⟨a,c,hv⟩:=q2.form
 subst hv
 have cr:=q1.cell 0
 simp at cr
 have HB4:=hid (hb4 _ · cr)
 have HCL:=hid (λ(k:Nat) (x:Ent) (hx:L[k]? = some x)=>q2.cell bh rfl hx)
 have HY:=hid hY
 have HJ:=hid hJ
 have HP:=hid hpre
 have HI:=hid hidx
 have HJ0:=hid h0
 clear hM q1 q2 hb4 hY hJ hpre hidx h0
 refine callsIn_of_wp func340 rfl trivial ?_ rfl
 simp only[ntmps340,List.size_toArray,List.length_cons,List.length_nil,Nat.reduceAdd,Nat.reduceSub,Array.replicate_succ,Array.replicate_zero,List.push_toArray,List.append_toArray,List.nil_append,List.cons_append]
 refine wpIn_wide.2 ?_
 go_wp2_with fail
 refine uu HFI λW1 f1=>?_
 have HJ1:=hid (ma HJ HJ0 f1)
 have HK1:=hid (Kx.bY (n₁:=n₁) (C:=C) f1 hW)
 rw[HI]
 clear f1
 go_wp2_with fail
 go_loopw [4] (λi wr=>∃ k:Nat,k<=L.length/\i = .int .i64 k/\J (L.take k) wr/\Kx n₁ C W wr) (λi _=>L.length - (intOf i).toNat)
 case atStart=>exact⟨0,Nat.zero_le _,rfl,HJ1,HK1⟩
 obtain⟨k,hk,rfl,hj,kx⟩:=hrel
 have hm1:=(kx.cell hb1.1 hb1.2).trans hm
 have hp1:=(kx.cell hb2.1 hb2.2).trans hp
 have cr1:=(kx.cell hb3.1 hb3.2).trans cr
 have HJK:=hid (And.intro hj kx)
 clear hj kx hm hp cr
 by_cases hlt:k<L.length
 ·obtain⟨x,hx⟩:∃ x,L[k]? = some x:=⟨_,List.getElem?_eq_getElem hlt⟩
  obtain⟨g,c2,hg,hv,hr,hgl,hcell⟩:=HCL.out k x hx
  cases hv
  have hgn:=HB4.out g rfl
  have HK:=HJK.2
  have e0:wr.cell? ⟨g,k*3,none⟩=some (.string x.1):=(HK.cell hgn.1 hgn.2).trans (hcell 0 _ (by omega) rfl)
  have e1:wr.cell? ⟨g,k*3+1,none⟩=some (.int .i64 x.2.1):=(HK.cell hgn.1 hgn.2).trans (hcell 1 _ (by omega) rfl)
  have e2:wr.cell? ⟨g,k*3+2,none⟩=some (.string x.2.2):=(HK.cell hgn.1 hgn.2).trans (hcell 2 _ (by omega) rfl)
  have hpx:=HP.out x (List.mem_of_getElem? hx)
  have HC:=hid (λy:Nat=>C8 x.1 p (wr.drewN y) hpx.1 hpx.2)
  have HTK:=hid (show L.take (k+1)=L.take k++[x] by rw[List.take_add_one,hx];rfl)
  have hkl:(k:Int)<(L.length:Int):=by omega
  have hlk:(L.take k).length<L.length:=by simp;omega
  have HLK:=hid hlk
  clear HK hr hgl hcell hpx hx hlk
  go_wp2_with fail
  go_quiet ((go_at_call 239;exact bB (HC _)))
  go_wp2_with fail
  obtain⟨W2,hW2⟩:∃ W2,W2=wr.drewN nq:=⟨_,rfl⟩
  have f2:Fr [] wr W2.drew:=by rw[hW2];exact(rZ.drewN _).drew
  rw[<-hW2]
  have HJ2:=hid (ma HJ HJK.1 f2)
  have HK2:=hid (HJK.2.trans (Kx.bY f2 (Nat.le_trans hW HJK.2.size)))
  have hm2:W2.cell? ⟨Bm,0,none⟩=some (.pointer (some ⟨r,0,none⟩)):=by rw[hW2];exact hm1
  have cr2:W2.cell? ⟨r,0,none⟩=some (.slice (some ⟨g,0,none⟩) L.length c):=by rw[hW2];exact cr1
  have d0:W2.cell? ⟨g,k*3,none⟩=some (.string x.1):=by rw[hW2];exact e0
  have d1:W2.cell? ⟨g,k*3+1,none⟩=some (.int .i64 x.2.1):=by rw[hW2];exact e1
  have d2:W2.cell? ⟨g,k*3+2,none⟩=some (.string x.2.2):=by rw[hW2];exact e2
  obtain⟨fn,tmps,assign,body,hy,hR⟩:=HY.out _ x W2.drew HJ2 HLK
  simp only[enc] at hy
  clear hm1 hp1 cr1 e0 e1 e2 hW2
  refine(wpIn_wide (n:=n)).1 ?_
  refine iP 17 (by kernel_rfl) (by kernel_rfl) ?_
  simp only[List.take_succ_cons,List.take_zero,List.drop_succ_cons,List.drop_zero]
  repeat still_step
  try refine wpStill_nil ?_
  change wpListIn _ _ _ _ _ _ _ W2.drew
  gi_wp2
  refine hR.mono ?_
  rintro e W3 h3
  obtain⟨b,rfl,h3⟩:=mR h3
  have H3:=hid h3
  clear h3
  cases b with
  | true =>
   obtain⟨_,hJ3,hk3⟩|⟨h3,_⟩:=H3.out
   ·have HX:=hid (And.intro hJ3 hk3)
    clear hJ3 hk3
    gi_wp2
    go_wp2_with fail
    go_roundw
    case rel=>exact⟨k+1,by omega,by go_num,by rw[HTK];exact HX.1,HK2.trans HX.2⟩
    simp[intOf];omega
   cases h3
  | false =>
   obtain⟨h3,_⟩|⟨_,hx3⟩:=H3.out
   ·cases h3
   have HX:=hid hx3
   clear hx3
   gi_wp2
   go_wp2_with fail
   refine bodyPost_ret (results_none rfl _ _ _) rfl ?_
   exact⟨⟨_,rfl⟩,.inr ⟨_,trivial,HX⟩⟩
 obtain rfl:k=L.length:=by omega
 have hkl:¬ ((L.length:Int)<(L.length:Int)):=by omega
 have HT:=hid (List.take_length (l:=L))
 clear hlt hk
 go_wp2_with fail
 go_quiet (fail)
 go_wp2_with fail
 go_end0
 exact⟨⟨_,rfl⟩,.inl ⟨_,rfl,ma HJ (HT.out ▸ HJK.1) (rZ.drewN _)⟩⟩
theorem qP (n:Nat)(hn:1<=n)(B Bm Bp r n₁ C:Nat)(L:List Ent)(p:ByteArray)
  (hpre:∀ x∈L,p.size<=x.1.size/\x.1.extract 0 p.size=p) (hidx:idx (keys L) p=0)
  (w:World) (hM:aQ w B r L) (hm:w.cell? ⟨Bm,0,none⟩=some (.pointer (some ⟨r,0,none⟩))) (hp:w.cell? ⟨Bp,0,none⟩=some (.string p)) (hW:n₁<=w.heap.size) (hb1:Bm<n₁/\Bm≠C) (hb2:Bp<n₁/\Bp≠C) (hb3:r<n₁/\r≠C)
  (hb4:∀ v g,w.cell? ⟨r,0,none⟩=some v->ay v=some g->g<n₁/\g≠C) :
  SeqStopsK Fence.wide n prog 340 #[.pointer (some ⟨Bm,0,none⟩),.pointer (some ⟨Bp,0,none⟩)] enc (Kx n₁ C) (λxs=>xs=L) (λ_=>True) L.length w:=λl J Jx W hW' hJ _ hY h0=>by
 have f:Fr [] w W:=sB hW'
 refine zG n hn l B Bm Bp r n₁ C _ L p J Jx hJ hpre hidx hY W (hM.fr0 f) ((f.ob (block_lt_of_cell hm)).trans hm) ((f.ob (block_lt_of_cell hp)).trans hp) (Nat.le_trans hW f.size) hb1 hb2 hb3 (λv g h=>hb4 v g ?_) h0
 rw[<-h]
 exact(f.ob (by omega)).symm
theorem CH (w:World)(r:Nat)(p:ByteArray):Calls prog 314 #[.pointer (some ⟨r,0,none⟩),.string p] w λe w'=>e = .returned (.func (.func 340) #[] #[.pointer (some ⟨w.heap.size,0,none⟩),.pointer (some ⟨w.heap.size+1,0,none⟩)])/\w'=(w.alloc (.cells #[.pointer (some ⟨r,0,none⟩)] 254)).alloc (.cells #[.string p] 9):=by
 go_enter func314,ntmps314
 go_wp2
 go_ret
 exact⟨by simp,rfl⟩
end Oc
namespace Oi
open Go.RowKit Go.Shelf
def enc (x:Ent):Array Value:=#[.string x.1,x.2]
end Oi
namespace Oc
open Go.RowKit
theorem Ed (w:World)(r:Nat):Calls prog 289 #[.pointer (some ⟨r,0,none⟩)] w λe w'=>e = .returned (.func (.func 340) #[] #[.pointer (some ⟨w.heap.size,0,none⟩),.pointer (some ⟨w.heap.size+1,0,none⟩)])/\w'=(w.alloc (.cells #[.pointer (some ⟨r,0,none⟩)] 254)).alloc (.cells #[.string ⟨#[]⟩] 9):=by
 go_enter func289,ntmps289
 go_wp2_with fail
 refine(CH w r _).mono ?_
 rintro e w' ⟨rfl,rfl⟩
 go_wp2_with fail
 go_ret
 exact⟨rfl,rfl⟩
end Oc
open Go.RowKit Go.Shelf
structure Kz (n₁ C D:Nat)(W W':World):Prop where
 os:W'.os=W.os
 tape:W'.tape=W.tape
 output:W'.output=W.output
 size:W.heap.size<=W'.heap.size
 block:∀ k,k<n₁->k≠C->k≠D->W'.heap[k]? = W.heap[k]?
theorem Kz.refl (n₁ C D:Nat)(W:World):Kz n₁ C D W W:=⟨rfl,rfl,rfl,Nat.le_refl _,λ_ _ _ _=>rfl⟩
theorem Kz.trans {n₁ C D:Nat}{W W' W'':World}(h:Kz n₁ C D W W')(k:Kz n₁ C D W' W''):Kz n₁ C D W W'' :=
 ⟨k.os.trans h.os,k.tape.trans h.tape,k.output.trans h.output,Nat.le_trans h.size k.size,λi a b c=>(k.block i a b c).trans (h.block i a b c)⟩
theorem Kz.bY {n₁ C D:Nat}{W W':World}(h:Fr [] W W')(hn:n₁<=W.heap.size):Kz n₁ C D W W' :=
 ⟨h.os,h.tape,h.output,h.size,λk hk _ _=>h.block k (by omega) (by simp)⟩
theorem Kz.cell {n₁ C D:Nat}{W W':World}(h:Kz n₁ C D W W'){b o:Nat}(hb:b<n₁)(hC:b≠C/\b≠D):W'.cell? ⟨b,o,none⟩=W.cell? ⟨b,o,none⟩:=World.cell?_of_block (h.block b hb hC.1 hC.2)
namespace Rg
open Go.RowKit Go.Shelf
abbrev X:={ x:Int × ByteArray // x.2.size<=1000 }
def enc (x:X):Array Value:=#[.agg #[.int .i64 x.1.1,.string x.1.2]]
theorem D5 (n:Nat)(hn:1<=n)(l B Br r n₁ C E D:Nat)(aD:Int)(L:List X)(J Jx:List X->World->Prop)(hJ:AbidesFrom D J)
  (hY:∀ pre x W1,J pre W1->pre.length<L.length->YieldAt Fence.wide (n - 1) prog l (enc x) W1 λe W'=>(e = .returned (.bool true)/\J (pre++[x]) W'/\Kz n₁ C E W1 W')∨(e = .returned (.bool false)/\Jx (pre++[x]) W'))
  (W:World) (hM:bC W B r aD (L.map (·.1))) (hm:W.cell? ⟨Br,0,none⟩=some (.pointer (some ⟨r,0,none⟩))) (hW:n₁<=W.heap.size) (hb1:Br<n₁/\Br≠C/\Br≠E) (hb3:r<n₁/\r≠C/\r≠E)
  (hb4:∀ v g,W.cell? ⟨r,1,none⟩=some v->ay v=some g->g<n₁/\g≠C/\g≠E) (h0:J [] W) :
  CallsIn Fence.wide n prog 290 #[.func (.yield l) #[] #[],.pointer (some ⟨Br,0,none⟩)] W λe W'=>(∃ v,e = .returned v)/\((∃ xs,xs=L.reverse/\J xs W')∨(∃ pre,True/\Jx pre W')):=by
 have hlen:=hM.len
 rw[List.length_map] at hlen
 obtain⟨va,q1,q2⟩:=hM.at_
 have hll:(L.map (·.1)).length=L.length:=List.length_map ..
 obtain⟨a,c,hv⟩:=q2.form
 rw[hll] at hv
 subst hv
 have cr:=q1.cell 1
 simp at cr
 have HB4:=hid (hb4 _ · cr)
 rw[hll] at q2
 have HCL:=hid (λ(k:Nat) (x:X) (hx:L[k]? = some x)=>q2.cell Lc.bh hll.symm (show (L.map (·.1))[k]? = some x.1 by simp[hx]))
 have HY:=hid hY
 have HJ:=hid hJ
 have HJ0:=hid h0
 clear hM q1 q2 hb4 hY hJ h0 hll
 refine callsIn_of_wp func290 rfl trivial ?_ rfl
 simp only[ntmps290,List.size_toArray,List.length_cons,List.length_nil,Nat.reduceAdd,Nat.reduceSub,Array.replicate_succ,Array.replicate_zero,List.push_toArray,List.append_toArray,List.nil_append,List.cons_append]
 refine wpIn_wide.2 ?_
 go_wp2_with fail
 go_loopw [3] (λi wr=>∃ k:Nat,k<=L.length/\i = .int .i64 ((L.length:Int) - 1 - k)/\J (L.reverse.take k) wr/\Kz n₁ C E W wr) (λi _=>(intOf i+1).toNat)
 case atStart=>exact⟨0,Nat.zero_le _,by simp,HJ0.out,Kz.refl _ _ _ _⟩
 obtain⟨k,hk,rfl,hj,kx⟩:=hrel
 have hm1:=(kx.cell hb1.1 hb1.2).trans hm
 have cr1:=(kx.cell hb3.1 hb3.2).trans cr
 have HJK:=hid (And.intro hj kx)
 clear hj kx hm cr
 by_cases hlt:k<L.length
 ·obtain⟨j,hj⟩:∃ j,j=L.length - 1 - k:=⟨_,rfl⟩
  have hjl:j<L.length:=by omega
  have hji:(L.length:Int) - 1 - k=(j:Int):=by omega
  rw[hji]
  obtain⟨x,hx⟩:∃ x,L[j]? = some x:=⟨_,List.getElem?_eq_getElem hjl⟩
  obtain⟨g,c2,hg,hv,hr,hgl,hcell⟩:=HCL.out j x hx
  cases hv
  have hgn:=HB4.out g rfl
  have HK:=HJK.2
  have e0:wr.cell? ⟨g,j*2,none⟩=some (.int .i64 x.1.1):=(HK.cell hgn.1 hgn.2).trans (hcell 0 _ (by omega) rfl)
  have e1:wr.cell? ⟨g,j*2+1,none⟩=some (.string x.1.2):=(HK.cell hgn.1 hgn.2).trans (hcell 1 _ (by omega) rfl)
  have HTK:=hid (show L.reverse.take (k+1)=L.reverse.take k++[x] by
   rw[List.take_add_one,List.getElem?_reverse (by omega),show L.length - 1 - k=j from hj.symm,hx]
   rfl)
  have hlk:(L.reverse.take k).length<L.length:=by simp;omega
  have HLK:=hid (And.intro hlk (And.intro hj (And.intro hji hlt)))
  have hjl2:(j:Int)<(L.length:Int):=by omega
  clear HK hr hgl hcell hx hlk hj hji hlt
  obtain⟨fn,tmps,assign,body,hy,hR⟩:=HY.out _ x wr HJK.1 HLK.1
  simp only[enc] at hy
  refine(wpIn_wide (n:=n)).1 ?_
  gi_wp2
  refine hR.mono ?_
  rintro e W3 h3
  obtain⟨b,rfl,h3⟩:=mR h3
  have H3:=hid h3
  clear h3
  cases b with
  | true =>
   obtain⟨_,hJ3,hk3⟩|⟨h3,_⟩:=H3.out
   ·have HX:=hid (And.intro hJ3 hk3)
    clear hJ3 hk3
    gi_wp2
    go_wp2_with fail
    go_roundw
    case rel=>exact⟨k+1,by have:=HLK.2.2.2;omega,congrArg (Value.int .i64) (by have:=HLK.2.2.1;omega),by rw[HTK];exact HX.1,HJK.2.trans HX.2⟩
    simp[intOf]
   cases h3
  | false =>
   obtain⟨h3,_⟩|⟨_,hx3⟩:=H3.out
   ·cases h3
   have HX:=hid hx3
   clear hx3
   gi_wp2
   go_wp2_with fail
   refine bodyPost_ret (results_none rfl _ _ _) rfl ?_
   exact⟨⟨_,rfl⟩,.inr ⟨_,trivial,HX⟩⟩
 obtain rfl:k=L.length:=by omega
 have e1:(L.length:Int) - 1 - (L.length:Int) = -1:=by omega
 rw[e1]
 have HT:=hid (show L.reverse.take L.length=L.reverse from List.take_of_length_le (by simp))
 clear hlt hk e1
 go_wp2_with fail
 go_end0
 exact⟨⟨_,rfl⟩,.inl ⟨_,rfl,HT.out ▸ HJK.1⟩⟩
theorem vC (n:Nat)(hn:1<=n)(B Br r n₁ C E:Nat)(aD:Int)(L:List X)
  (w:World) (hM:bC w B r aD (L.map (·.1))) (hm:w.cell? ⟨Br,0,none⟩=some (.pointer (some ⟨r,0,none⟩))) (hW:n₁<=w.heap.size) (hb1:Br<n₁/\Br≠C/\Br≠E) (hb3:r<n₁/\r≠C/\r≠E)
  (hb4:∀ v g,w.cell? ⟨r,1,none⟩=some v->ay v=some g->g<n₁/\g≠C/\g≠E) :
  SeqStopsK Fence.wide n prog 290 #[.pointer (some ⟨Br,0,none⟩)] enc (Kz n₁ C E) (λxs=>xs=L.reverse) (λ_=>True) L.length w:=λl J Jx W hW' hJ _ hY h0=>by
 have f:Fr [] w W:=sB hW'
 refine D5 n hn l B Br r n₁ C E _ aD L J Jx hJ hY W (hM.fr0 f) ((f.ob (block_lt_of_cell hm)).trans hm) (Nat.le_trans hW f.size) hb1 hb3 (λv g h=>hb4 v g ?_) h0
 rw[<-h]
 exact(f.ob (by omega)).symm
theorem zh (w:World)(r:Nat):Calls prog 247 #[.pointer (some ⟨r,0,none⟩)] w λe w'=>e = .returned (.func (.func 290) #[] #[.pointer (some ⟨w.heap.size,0,none⟩)])/\w'=w.alloc (.cells #[.pointer (some ⟨r,0,none⟩)] 255):=by
 go_enter func247,ntmps247
 go_wp2
 go_ret
 exact⟨rfl,rfl⟩
end Rg
