/- Texts OmU. -/
import Derived.Test.YtjmkkcckfbnmeaaGreatDoorM16
import Derived.Test.YtjmkkcckfbnmeaaGreatDoorM17
import Derived.Test.YtjmkkcckfbnmeaaGreatDoorM29
import Derived.Deep.QuietTactic
import Derived.BigQuiet
import Derived.BigRegionIn
set_option maxRecDepth 100000
set_option maxHeartbeats 8000000
set_option linter.all false
open Go.Lib (hid)
namespace Go.Proofs.YtjmkkcckfbnmeaaGreatDoor
open Go.RowKit Go.Shelf
structure Kx (n₁ C:Nat)(W W':World):Prop where
 os:W'.os=W.os
 tape:W'.tape=W.tape
 output:W'.output=W.output
 size:W.heap.size≤W'.heap.size
 block:∀ k,k<n₁→k≠C→W'.heap[k]? = W.heap[k]?
theorem Kx.refl (n₁ C:Nat)(W:World):Kx n₁ C W W:=⟨rfl,rfl,rfl,Nat.le_refl _,fun _ _ _=>rfl⟩
theorem Kx.trans {n₁ C:Nat}{W W' W'':World}(h:Kx n₁ C W W')(k:Kx n₁ C W' W''):Kx n₁ C W W'' :=
 ⟨k.os.trans h.os,k.tape.trans h.tape,k.output.trans h.output,Nat.le_trans h.size k.size,fun i a b=>(k.block i a b).trans (h.block i a b)⟩
theorem Kx.of_fr {n₁ C:Nat}{W W':World}(h:Fr [] W W')(hn:n₁≤W.heap.size):Kx n₁ C W W' :=
 ⟨h.os,h.tape,h.output,h.size,fun k hk _=>h.block k (by omega) (by simp)⟩
theorem Kx.cell {n₁ C:Nat}{W W':World}(h:Kx n₁ C W W'){b o:Nat}(hb:b<n₁)(hC:b≠C):W'.cell? ⟨b,o,none⟩=W.cell? ⟨b,o,none⟩:=World.cell?_of_block (h.block b hb hC)
theorem fr_grown {W W':World}(h:Fr [] W W'):W.grownBy W' none:=⟨h.os,h.tape,h.output,h.size,fun k hk _=>h.block k hk (by simp)⟩
theorem abides_fr {β:Type}{D:Nat}{J:β→World→Prop}(hJ:AbidesFrom D J){s:β}{W W':World}(h:J s W)(hf:Fr [] W W'):J s W':=hJ s W W' none h (fr_grown hf) (by simp)
theorem fr_below {W W':World}(h:Below W.heap.size W W'):Fr [] W W':=⟨h.os,h.tape,h.output,h.size,fun k hk _=>h.block k hk⟩
theorem Fr.cell' {W W':World}(h:Fr [] W W'){b o:Nat}(hb:b<W.heap.size):W'.cell? ⟨b,o,none⟩=W.cell? ⟨b,o,none⟩:=World.cell?_of_block (h.block b hb (by simp))
theorem yield_bool {e:Ending}{A C:Prop}(h:(e = .returned (.bool true)∧A)∨(e = .returned (.bool false)∧C)):∃ b:Bool,e = .returned (.bool b)∧((b=true∧A)∨(b=false∧C)):=by
 rcases h with⟨h,a⟩|⟨h,a⟩
 ·exact⟨true,h,.inl ⟨rfl,a⟩⟩
 ·exact⟨false,h,.inr ⟨rfl,a⟩⟩
def pre (s p:ByteArray):Bool:=decide (p.size≤s.size)&&(s.extract 0 p.size==p)
theorem pre0_any (s p:ByteArray)(w:World)(h1:p.size≤s.size)(h2:s.extract 0 p.size=p) :
  Calls Tryz.prog 268 #[.string s,.string p] w fun e w'=>e = .returned (.bool true)∧w=w':=by
 have h3:(p.size:Int)≤(s.size:Int):=by omega
 go_enter Tryz.func268,Tryz.ntmps268
 go_wp2
 go_ret
 simp[h2]
theorem pre_any (s p:ByteArray)(w:World)(h1:p.size≤s.size)(h2:s.extract 0 p.size=p) :
  Calls Tryz.prog 235 #[.string s,.string p] w fun e w'=>e = .returned (.bool true)∧w=w':=by
 go_enter Tryz.func235,Tryz.ntmps235
 go_wp2_with fail
 refine(pre0_any s p w h1 h2).mono ?_
 rintro e w' ⟨rfl,rfl⟩
 go_wp2_with fail
 go_ret
 exact⟨rfl,rfl⟩
end Go.Proofs.YtjmkkcckfbnmeaaGreatDoor
namespace Go.Proofs.YtjmkkcckfbnmeaaGreatDoor.Oc
open Go.RowKit Go.Shelf
def enc (x:Ent):Array Value:=#[.string x.1,.agg #[.int .i64 x.2.1,.string x.2.2]]
theorem under_in (n:Nat)(hn:1≤n)(l B Bm Bp r n₁ C D:Nat)(L:List Ent)(p:ByteArray)(J Jx:List Ent→World→Prop)(hJ:AbidesFrom D J)
  (hpre:∀ x∈L,p.size≤x.1.size∧x.1.extract 0 p.size=p) (hidx:idx (keys L) p=0)
  (hY:∀ pre x W1,J pre W1→pre.length<L.length→YieldAt Fence.wide (n - 1) Tryz.prog l (enc x) W1 fun e W'=>(e = .returned (.bool true)∧J (pre++[x]) W'∧Kx n₁ C W1 W')∨(e = .returned (.bool false)∧Jx (pre++[x]) W'))
  (W:World) (hM:MapAt W B r L) (hm:W.cell? ⟨Bm,0,none⟩=some (.pointer (some ⟨r,0,none⟩))) (hp:W.cell? ⟨Bp,0,none⟩=some (.string p)) (hW:n₁≤W.heap.size) (hb1:Bm<n₁∧Bm≠C) (hb2:Bp<n₁∧Bp≠C) (hb3:r<n₁∧r≠C)
  (hb4:∀ v g,W.cell? ⟨r,0,none⟩=some v→ownOf v=some g→g<n₁∧g≠C) (h0:J [] W) :
  CallsIn Fence.wide n Tryz.prog 336 #[.func (.yield l) #[] #[],.pointer (some ⟨Bm,0,none⟩),.pointer (some ⟨Bp,0,none⟩)] W fun e W'=>(∃ v,e = .returned v)∧((∃ xs,xs=L∧J xs W')∨(∃ pre,True∧Jx pre W')):=by
 have HFI:=hid (find_any W B r L p hM)
 have hlen:=hM.len
 obtain⟨v,q1,q2⟩:=hM.at_
 obtain⟨a,c,hv⟩:=q2.form
 subst hv
 have cr:=q1.cell 0
 simp at cr
 have HB4:=hid (hb4 _ · cr)
 have HCL:=hid (fun (k:Nat) (x:Ent) (hx:L[k]? = some x)=>q2.cell cs_len rfl hx)
 have HY:=hid hY
 have HJ:=hid hJ
 have HP:=hid hpre
 have HI:=hid hidx
 have HJ0:=hid h0
 clear hM q1 q2 hb4 hY hJ hpre hidx h0
 refine callsIn_of_wp Tryz.func336 rfl trivial ?_ rfl
 simp only[Tryz.ntmps336,List.size_toArray,List.length_cons,List.length_nil,Nat.reduceAdd,Nat.reduceSub,Array.replicate_succ,Array.replicate_zero,List.push_toArray,List.append_toArray,List.nil_append,List.cons_append]
 refine wpIn_wide.2 ?_
 go_wp2_with fail
 refine HFI.out.mono ?_
 rintro e W1 ⟨rfl,f1⟩
 have HJ1:=hid (abides_fr HJ.out HJ0.out f1)
 have HK1:=hid (Kx.of_fr (n₁:=n₁) (C:=C) f1 hW)
 rw[HI.out]
 clear f1
 go_wp2_with fail
 go_loopw [4] (fun i wr=>∃ k:Nat,k≤L.length∧i = .int .i64 k∧J (L.take k) wr∧Kx n₁ C W wr) (fun i _=>L.length - (intOf i).toNat)
 case atStart=>exact⟨0,Nat.zero_le _,rfl,HJ1.out,HK1.out⟩
 case round =>
  obtain⟨k,hk,rfl,hj,kx⟩:=hrel
  have hm1:=(kx.cell hb1.1 hb1.2).trans hm
  have hp1:=(kx.cell hb2.1 hb2.2).trans hp
  have cr1:=(kx.cell hb3.1 hb3.2).trans cr
  have HJK:=hid (And.intro hj kx)
  clear hj kx hm hp cr
  by_cases hlt:k<L.length
  ·obtain⟨x,hx⟩:∃ x,L[k]? = some x:=⟨_,List.getElem?_eq_getElem hlt⟩
   obtain⟨g,c2,hg,hv,hr,hgl,hcell⟩:=HCL.out k x hx
   cases hv
   have hgn:=HB4.out g rfl
   have HK:=HJK.out.2
   have e0:wr.cell? ⟨g,k*3,none⟩=some (.string x.1):=(HK.cell hgn.1 hgn.2).trans (hcell 0 _ (by omega) rfl)
   have e1:wr.cell? ⟨g,k*3+1,none⟩=some (.int .i64 x.2.1):=(HK.cell hgn.1 hgn.2).trans (hcell 1 _ (by omega) rfl)
   have e2:wr.cell? ⟨g,k*3+2,none⟩=some (.string x.2.2):=(HK.cell hgn.1 hgn.2).trans (hcell 2 _ (by omega) rfl)
   have hpx:=HP.out x (List.mem_of_getElem? hx)
   have HC:=hid (fun y:Nat=>pre_any x.1 p (wr.drewN y) hpx.1 hpx.2)
   have HTK:=hid (show L.take (k+1)=L.take k++[x] by rw[List.take_add_one,hx];rfl)
   have hkl:(k:Int)<(L.length:Int):=by omega
   have hlk:(L.take k).length<L.length:=by simp;omega
   have HLK:=hid hlk
   clear HK hr hgl hcell hpx hx hlk
   go_wp2_with fail
   go_quiet ((go_at_call 235;exact quiet_same (HC.out _)))
   go_wp2_with fail
   obtain⟨W2,hW2⟩:∃ W2,W2=wr.drewN nq:=⟨_,rfl⟩
   have f2:Fr [] wr W2.drew:=by rw[hW2];exact((Fr.refl _ _).drewN _).drew
   rw[←hW2]
   have HJ2:=hid (abides_fr HJ.out HJK.out.1 f2)
   have HK2:=hid (HJK.out.2.trans (Kx.of_fr f2 (Nat.le_trans hW HJK.out.2.size)))
   have hm2:W2.cell? ⟨Bm,0,none⟩=some (.pointer (some ⟨r,0,none⟩)):=by rw[hW2];exact hm1
   have cr2:W2.cell? ⟨r,0,none⟩=some (.slice (some ⟨g,0,none⟩) L.length c):=by rw[hW2];exact cr1
   have d0:W2.cell? ⟨g,k*3,none⟩=some (.string x.1):=by rw[hW2];exact e0
   have d1:W2.cell? ⟨g,k*3+1,none⟩=some (.int .i64 x.2.1):=by rw[hW2];exact e1
   have d2:W2.cell? ⟨g,k*3+2,none⟩=some (.string x.2.2):=by rw[hW2];exact e2
   obtain⟨fn,tmps,assign,body,hy,hR⟩:=HY.out _ x W2.drew HJ2.out HLK.out
   simp only[enc] at hy
   clear hm1 hp1 cr1 e0 e1 e2 hW2
   refine(wpIn_wide (n:=n)).1 ?_
   refine wpIn_region_still_tail 17 (by kernel_rfl) (by kernel_rfl) ?_
   simp only[List.take_succ_cons,List.take_zero,List.drop_succ_cons,List.drop_zero]
   repeat still_step
   try refine wpStill_nil ?_
   change wpListIn _ _ _ _ _ _ _ W2.drew
   gi_wp2
   refine hR.mono ?_
   rintro e W3 h3
   obtain⟨b,rfl,h3⟩:=yield_bool h3
   have H3:=hid h3
   clear h3
   cases b with
   | true =>
    obtain⟨_,hJ3,hk3⟩|⟨h3,_⟩:=H3.out
    ·have HX:=hid (And.intro hJ3 hk3)
     clear hJ3 hk3
     gi_wp2
     go_wp2_with fail
     go_roundw
     case rel=>exact⟨k+1,by omega,by go_num,by rw[HTK.out];exact HX.out.1,HK2.out.trans HX.out.2⟩
     case measure=>simp[intOf];omega
    ·cases h3
   | false =>
    obtain⟨h3,_⟩|⟨_,hx3⟩:=H3.out
    ·cases h3
    ·have HX:=hid hx3
     clear hx3
     gi_wp2
     go_wp2_with fail
     refine bodyPost_ret (results_none rfl _ _ _) rfl ?_
     exact⟨⟨_,rfl⟩,.inr ⟨_,trivial,HX.out⟩⟩
  ·obtain rfl:k=L.length:=by omega
   have hkl:¬ ((L.length:Int)<(L.length:Int)):=by omega
   have HT:=hid (List.take_length (l:=L))
   clear hlt hk
   go_wp2_with fail
   go_quiet (fail)
   go_wp2_with fail
   go_end0
   exact⟨⟨_,rfl⟩,.inl ⟨_,rfl,abides_fr HJ.out (HT.out ▸ HJK.out.1) ((Fr.refl _ _).drewN _)⟩⟩
theorem under_stops (n:Nat)(hn:1≤n)(B Bm Bp r n₁ C:Nat)(L:List Ent)(p:ByteArray)
  (hpre:∀ x∈L,p.size≤x.1.size∧x.1.extract 0 p.size=p) (hidx:idx (keys L) p=0)
  (w:World) (hM:MapAt w B r L) (hm:w.cell? ⟨Bm,0,none⟩=some (.pointer (some ⟨r,0,none⟩))) (hp:w.cell? ⟨Bp,0,none⟩=some (.string p)) (hW:n₁≤w.heap.size) (hb1:Bm<n₁∧Bm≠C) (hb2:Bp<n₁∧Bp≠C) (hb3:r<n₁∧r≠C)
  (hb4:∀ v g,w.cell? ⟨r,0,none⟩=some v→ownOf v=some g→g<n₁∧g≠C) :
  SeqStopsK Fence.wide n Tryz.prog 336 #[.pointer (some ⟨Bm,0,none⟩),.pointer (some ⟨Bp,0,none⟩)] enc (Kx n₁ C) (fun xs=>xs=L) (fun _=>True) L.length w:=fun l J Jx W hW' hJ _ hY h0=>by
 have f:Fr [] w W:=fr_below hW'
 refine under_in n hn l B Bm Bp r n₁ C _ L p J Jx hJ hpre hidx hY W (hM.fr0 f) ((f.cell' (block_lt_of_cell hm)).trans hm) ((f.cell' (block_lt_of_cell hp)).trans hp) (Nat.le_trans hW f.size) hb1 hb2 hb3 (fun v g h=>hb4 v g ?_) h0
 rw[←h]
 exact(f.cell' (by omega)).symm
theorem und_any (w:World)(r:Nat)(p:ByteArray):Calls Tryz.prog 308 #[.pointer (some ⟨r,0,none⟩),.string p] w fun e w'=>e = .returned (.func (.func 336) #[] #[.pointer (some ⟨w.heap.size,0,none⟩),.pointer (some ⟨w.heap.size+1,0,none⟩)])∧w'=(w.alloc (.cells #[.pointer (some ⟨r,0,none⟩)] 253)).alloc (.cells #[.string p] 9):=by
 go_enter Tryz.func308,Tryz.ntmps308
 go_wp2
 go_ret
 exact⟨by simp,rfl⟩
end Go.Proofs.YtjmkkcckfbnmeaaGreatDoor.Oc
namespace Go.Proofs.YtjmkkcckfbnmeaaGreatDoor.Oi
open Go.RowKit Go.Shelf
def enc (x:Ent):Array Value:=#[.string x.1,x.2]
theorem under_in (n:Nat)(hn:1≤n)(l B Bm Bp r n₁ C D:Nat)(L:List Ent)(p:ByteArray)(J Jx:List Ent→World→Prop)(hJ:AbidesFrom D J)
  (hpre:∀ x∈L,p.size≤x.1.size∧x.1.extract 0 p.size=p) (hidx:idx (keys L) p=0)
  (hY:∀ pre x W1,J pre W1→pre.length<L.length→YieldAt Fence.wide (n - 1) Tryz.prog l (enc x) W1 fun e W'=>(e = .returned (.bool true)∧J (pre++[x]) W'∧Kx n₁ C W1 W')∨(e = .returned (.bool false)∧Jx (pre++[x]) W'))
  (W:World) (hM:MapAt W B r L) (hm:W.cell? ⟨Bm,0,none⟩=some (.pointer (some ⟨r,0,none⟩))) (hp:W.cell? ⟨Bp,0,none⟩=some (.string p)) (hW:n₁≤W.heap.size) (hb1:Bm<n₁∧Bm≠C) (hb2:Bp<n₁∧Bp≠C) (hb3:r<n₁∧r≠C)
  (hb4:∀ v g,W.cell? ⟨r,0,none⟩=some v→ownOf v=some g→g<n₁∧g≠C) (h0:J [] W) :
  CallsIn Fence.wide n Tryz.prog 234 #[.func (.yield l) #[] #[],.pointer (some ⟨Bm,0,none⟩),.pointer (some ⟨Bp,0,none⟩)] W fun e W'=>(∃ v,e = .returned v)∧((∃ xs,xs=L∧J xs W')∨(∃ pre,True∧Jx pre W')):=by
 have HFI:=hid (find_any W B r L p hM)
 have hlen:=hM.len
 obtain⟨v,q1,q2⟩:=hM.at_
 obtain⟨a,c,hv⟩:=q2.form
 subst hv
 have cr:=q1.cell 0
 simp at cr
 have HB4:=hid (hb4 _ · cr)
 have HCL:=hid (fun (k:Nat) (x:Ent) (hx:L[k]? = some x)=>q2.cell cs_len rfl hx)
 have HY:=hid hY
 have HJ:=hid hJ
 have HP:=hid hpre
 have HI:=hid hidx
 have HJ0:=hid h0
 clear hM q1 q2 hb4 hY hJ hpre hidx h0
 refine callsIn_of_wp Tryz.func234 rfl trivial ?_ rfl
 simp only[Tryz.ntmps234,List.size_toArray,List.length_cons,List.length_nil,Nat.reduceAdd,Nat.reduceSub,Array.replicate_succ,Array.replicate_zero,List.push_toArray,List.append_toArray,List.nil_append,List.cons_append]
 refine wpIn_wide.2 ?_
 go_wp2_with fail
 refine HFI.out.mono ?_
 rintro e W1 ⟨rfl,f1⟩
 have HJ1:=hid (abides_fr HJ.out HJ0.out f1)
 have HK1:=hid (Kx.of_fr (n₁:=n₁) (C:=C) f1 hW)
 rw[HI.out]
 clear f1
 go_wp2_with fail
 go_loopw [4] (fun i wr=>∃ k:Nat,k≤L.length∧i = .int .i64 k∧J (L.take k) wr∧Kx n₁ C W wr) (fun i _=>L.length - (intOf i).toNat)
 case atStart=>exact⟨0,Nat.zero_le _,rfl,HJ1.out,HK1.out⟩
 case round =>
  obtain⟨k,hk,rfl,hj,kx⟩:=hrel
  have hm1:=(kx.cell hb1.1 hb1.2).trans hm
  have hp1:=(kx.cell hb2.1 hb2.2).trans hp
  have cr1:=(kx.cell hb3.1 hb3.2).trans cr
  have HJK:=hid (And.intro hj kx)
  clear hj kx hm hp cr
  by_cases hlt:k<L.length
  ·obtain⟨x,hx⟩:∃ x,L[k]? = some x:=⟨_,List.getElem?_eq_getElem hlt⟩
   obtain⟨g,c2,hg,hv,hr,hgl,hcell⟩:=HCL.out k x hx
   cases hv
   have hgn:=HB4.out g rfl
   have HK:=HJK.out.2
   have e0:wr.cell? ⟨g,k*2,none⟩=some (.string x.1):=(HK.cell hgn.1 hgn.2).trans (hcell 0 _ (by omega) rfl)
   have e1:wr.cell? ⟨g,k*2+1,none⟩=some (x.2):=(HK.cell hgn.1 hgn.2).trans (hcell 1 _ (by omega) rfl)
   have hpx:=HP.out x (List.mem_of_getElem? hx)
   have HC:=hid (fun y:Nat=>pre_any x.1 p (wr.drewN y) hpx.1 hpx.2)
   have HTK:=hid (show L.take (k+1)=L.take k++[x] by rw[List.take_add_one,hx];rfl)
   have hkl:(k:Int)<(L.length:Int):=by omega
   have hlk:(L.take k).length<L.length:=by simp;omega
   have HLK:=hid hlk
   clear HK hr hgl hcell hpx hx hlk
   go_wp2_with fail
   go_quiet ((go_at_call 235;exact quiet_same (HC.out _)))
   go_wp2_with fail
   obtain⟨W2,hW2⟩:∃ W2,W2=wr.drewN nq:=⟨_,rfl⟩
   have f2:Fr [] wr W2.drew:=by rw[hW2];exact((Fr.refl _ _).drewN _).drew
   rw[←hW2]
   have HJ2:=hid (abides_fr HJ.out HJK.out.1 f2)
   have HK2:=hid (HJK.out.2.trans (Kx.of_fr f2 (Nat.le_trans hW HJK.out.2.size)))
   have hm2:W2.cell? ⟨Bm,0,none⟩=some (.pointer (some ⟨r,0,none⟩)):=by rw[hW2];exact hm1
   have cr2:W2.cell? ⟨r,0,none⟩=some (.slice (some ⟨g,0,none⟩) L.length c):=by rw[hW2];exact cr1
   have d0:W2.cell? ⟨g,k*2,none⟩=some (.string x.1):=by rw[hW2];exact e0
   have d1:W2.cell? ⟨g,k*2+1,none⟩=some (x.2):=by rw[hW2];exact e1
   obtain⟨fn,tmps,assign,body,hy,hR⟩:=HY.out _ x W2.drew HJ2.out HLK.out
   simp only[enc] at hy
   clear hm1 hp1 cr1 e0 e1 hW2
   refine(wpIn_wide (n:=n)).1 ?_
   refine wpIn_region_still_tail 17 (by kernel_rfl) (by kernel_rfl) ?_
   simp only[List.take_succ_cons,List.take_zero,List.drop_succ_cons,List.drop_zero]
   repeat still_step
   try refine wpStill_nil ?_
   change wpListIn _ _ _ _ _ _ _ W2.drew
   gi_wp2
   refine hR.mono ?_
   rintro e W3 h3
   obtain⟨b,rfl,h3⟩:=yield_bool h3
   have H3:=hid h3
   clear h3
   cases b with
   | true =>
    obtain⟨_,hJ3,hk3⟩|⟨h3,_⟩:=H3.out
    ·have HX:=hid (And.intro hJ3 hk3)
     clear hJ3 hk3
     gi_wp2
     go_wp2_with fail
     go_roundw
     case rel=>exact⟨k+1,by omega,by go_num,by rw[HTK.out];exact HX.out.1,HK2.out.trans HX.out.2⟩
     case measure=>simp[intOf];omega
    ·cases h3
   | false =>
    obtain⟨h3,_⟩|⟨_,hx3⟩:=H3.out
    ·cases h3
    ·have HX:=hid hx3
     clear hx3
     gi_wp2
     go_wp2_with fail
     refine bodyPost_ret (results_none rfl _ _ _) rfl ?_
     exact⟨⟨_,rfl⟩,.inr ⟨_,trivial,HX.out⟩⟩
  ·obtain rfl:k=L.length:=by omega
   have hkl:¬ ((L.length:Int)<(L.length:Int)):=by omega
   have HT:=hid (List.take_length (l:=L))
   clear hlt hk
   go_wp2_with fail
   go_quiet (fail)
   go_wp2_with fail
   go_end0
   exact⟨⟨_,rfl⟩,.inl ⟨_,rfl,abides_fr HJ.out (HT.out ▸ HJK.out.1) ((Fr.refl _ _).drewN _)⟩⟩
theorem under_stops (n:Nat)(hn:1≤n)(B Bm Bp r n₁ C:Nat)(L:List Ent)(p:ByteArray)
  (hpre:∀ x∈L,p.size≤x.1.size∧x.1.extract 0 p.size=p) (hidx:idx (keys L) p=0)
  (w:World) (hM:MapAt w B r L) (hm:w.cell? ⟨Bm,0,none⟩=some (.pointer (some ⟨r,0,none⟩))) (hp:w.cell? ⟨Bp,0,none⟩=some (.string p)) (hW:n₁≤w.heap.size) (hb1:Bm<n₁∧Bm≠C) (hb2:Bp<n₁∧Bp≠C) (hb3:r<n₁∧r≠C)
  (hb4:∀ v g,w.cell? ⟨r,0,none⟩=some v→ownOf v=some g→g<n₁∧g≠C) :
  SeqStopsK Fence.wide n Tryz.prog 234 #[.pointer (some ⟨Bm,0,none⟩),.pointer (some ⟨Bp,0,none⟩)] enc (Kx n₁ C) (fun xs=>xs=L) (fun _=>True) L.length w:=fun l J Jx W hW' hJ _ hY h0=>by
 have f:Fr [] w W:=fr_below hW'
 refine under_in n hn l B Bm Bp r n₁ C _ L p J Jx hJ hpre hidx hY W (hM.fr0 f) ((f.cell' (block_lt_of_cell hm)).trans hm) ((f.cell' (block_lt_of_cell hp)).trans hp) (Nat.le_trans hW f.size) hb1 hb2 hb3 (fun v g h=>hb4 v g ?_) h0
 rw[←h]
 exact(f.cell' (by omega)).symm
theorem und_any (w:World)(r:Nat)(p:ByteArray):Calls Tryz.prog 204 #[.pointer (some ⟨r,0,none⟩),.string p] w fun e w'=>e = .returned (.func (.func 234) #[] #[.pointer (some ⟨w.heap.size,0,none⟩),.pointer (some ⟨w.heap.size+1,0,none⟩)])∧w'=(w.alloc (.cells #[.pointer (some ⟨r,0,none⟩)] 168)).alloc (.cells #[.string p] 9):=by
 go_enter Tryz.func204,Tryz.ntmps204
 go_wp2
 go_ret
 exact⟨by simp,rfl⟩
end Go.Proofs.YtjmkkcckfbnmeaaGreatDoor.Oi
namespace Go.Proofs.YtjmkkcckfbnmeaaGreatDoor.Oc
open Go.RowKit
theorem all_any (w:World)(r:Nat):Calls Tryz.prog 282 #[.pointer (some ⟨r,0,none⟩)] w fun e w'=>e = .returned (.func (.func 336) #[] #[.pointer (some ⟨w.heap.size,0,none⟩),.pointer (some ⟨w.heap.size+1,0,none⟩)])∧w'=(w.alloc (.cells #[.pointer (some ⟨r,0,none⟩)] 253)).alloc (.cells #[.string ⟨#[]⟩] 9):=by
 go_enter Tryz.func282,Tryz.ntmps282
 go_wp2_with fail
 refine(und_any w r _).mono ?_
 rintro e w' ⟨rfl,rfl⟩
 go_wp2_with fail
 go_ret
 exact⟨rfl,rfl⟩
end Go.Proofs.YtjmkkcckfbnmeaaGreatDoor.Oc
