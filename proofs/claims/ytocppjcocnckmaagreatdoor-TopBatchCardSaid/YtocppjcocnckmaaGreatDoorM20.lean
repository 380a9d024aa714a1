/- Walks. -/
import Derived.Test.YtocppjcocnckmaaGreatDoorM17
import Derived.Deep.Cut
import Derived.Deep.RegionHeld3
set_option maxRecDepth 100000
set_option maxHeartbeats 8000000
set_option linter.all false
open Go.Lib (hid)
namespace Go.Proofs.YtocppjcocnckmaaGreatDoor
open Go.Proofs.Tryz
namespace Pr
open Go.RowKit Fm Pk
theorem bP (w:World)(v:Value)(l:List UInt8)(n:Int)(h:BIn w v l)(hl:l.length<=100000)(h0:0<=n)(h1:n<=247) :
  Calls prog 32 #[v,.int .i64 n] w λe w'=>∃ v',e = .returned v'/\ln w w' v' (l++[nb n])/\Fr [] w w':=by
 obtain⟨i5,hi,hz0,hz1,hz2⟩:=info_parts info5
 obtain⟨a,m,c,rfl,hm,hb⟩:=h
 rw[hm] at hl
 have f0:Fr [] w (w.alloc (.cells #[] 5)):=(Fr.refl [] w).alloc _
 have r0:Row (w.alloc (.cells #[] 5)) 5 1 w.heap.size 0 0 []:=Row.new w #[] (by simp) (by decide)
 have hb1:=hb.fr f0 (Nat.le_refl _) (by simp)
 have hcell:=hid (jT n h0 (by omega))
 go_enter func32,ntmps32
 go_wp2_with (at_builtin;first
  | (refine af rfl (.tmp 7) (.tmp 8) 69 rfl i5 _ 1 underlying69 hi hz0 hz1 hz2 rfl (by decide) _ _ rfl (Sl.row r0) a m c (bc l) rfl (by simp[eg,hm]) hb1.cells (jh l) (by unfold maxLen;omega) (by omega) ?_;intro v1 w2 own1 hs1 hf1 ho1 hm1;obtain⟨g1,c1,rfl,rfl,hg2,r2⟩:=bV (B:=w.heap.size) hs1 ho1 f0.size (Nat.le_refl _);have k2:=hf1.size;have f2:Fr [] w w2:=f0.step hf1 (by simp);simp only[Nat.zero_add,List.nil_append] at r2)
  | (refine af rfl (.tmp 15) (.tmp 18) 69 rfl i5 _ 1 underlying69 hi hz0 hz1 hz2 rfl (by decide) _ _ rfl ((Sl.row r2).fr0 ((Fr.refl [] w2).alloc _)) _ 1 1 [.int .u8 n] rfl rfl (Cells.one (Holds.new w2 5 #[.int .u8 n])) (by simp[Value.oneCell']) (by unfold maxLen;omega) (by omega) ?_;intro v2 w3 own2 hs2 hf2 ho2 hm2;obtain⟨g2,c2,rfl,rfl,hg3,r3⟩:=bV (B:=w.heap.size) hs2 ho2 (by have:=f2.size;simp;omega) hg2))
 go_ret
 rw[hcell,<-cF] at r3
 exact⟨_,rfl,⟨g2,c2,_,rfl,hg3,by simp[hm],r3⟩,(f2.alloc _).step hf2 (by simpa using hg2)⟩
theorem aN (w:World)(v:Value)(l:List UInt8)(s:ByteArray)(h:BIn w v l)(hl:l.length<=90000)(h1:s.size<=247) :
  Calls prog 30 #[v,.string s] w λe w'=>∃ v',e = .returned v'/\ln w w' v' (l++txt s)/\Fr [] w w':=by
 obtain⟨i5,hi,hz0,hz1,hz2⟩:=info_parts info5
 have hms:s.size<=maxLen:=by unfold maxLen;omega
 go_enter func30,ntmps30
 go_wp2_with (first
  | (at_builtin;(refine Lib.wpList_append_own_string w1 rfl (.tmp 8) (.tmp 9) 69 9 rfl w.heap.size 5 i5 underlying69 underlying9 hi hz0 hz1 hz2 (.slice (some ⟨g,0,none⟩) n c) n _ rfl (ml hr hg) s rfl (by unfold maxLen;omega) (by omega) f1.size ?_;intro v3 w4 ho3 hg3 hn3;obtain⟨g3,c3,rfl,hb3,hr3,f3⟩:=mh ho3 hg3 (λh=>by simpa using hn3.1 h)))
  | (go_at_call 32;refine(bP w v l s.size h (by omega) (by omega) (by omega)).mono ?_;rintro e w1 ⟨v',rfl,⟨g,c,n,rfl,hg,hn,hr⟩,f1⟩;have hn':n<=90001:=by simp at hn;omega))
 go_ret
 rw[jv,<-cF] at hr3
 refine⟨_,rfl,⟨g3,c3,_,rfl,hb3,by simp[txt,<-hn];omega,?_⟩,f1.step f3 (by simpa using hg)⟩
 simpa[txt] using hr3
theorem jU (w:World)(b:Bool):Calls prog 33 #[.bool b] w λe w'=>e = .returned (.int .i64 (En.bit b))/\w=w':=by
 cases b
 all_goals
  go_enter func33,ntmps33
  go_wp2
  go_ret
  exact⟨rfl,rfl⟩
theorem iL (w:World)(v:Value)(l:List UInt8)(k x:Int)(h:BIn w v l)(hl:l.length<=90000)(k0:0<=k)(k1:k<=247)(x0:0<=x)(x1:x<=247) :
  Calls prog 31 #[v,.agg #[.int .i64 k,.int .i64 x]] w λe w'=>∃ v',e = .returned v'/\ln w w' v' (l++En.iM k x)/\Fr [] w w':=by
 obtain⟨g,hg⟩:∃ g,w.heap.size=g:=⟨_,rfl⟩
 have b0:=Holds.new w 34 #[.int .i64 k,.int .i64 x]
 rw[hg] at b0
 have B0:=hid b0
 have c0:=b0.cell 0
 have c1:=b0.cell 1
 have hgl:=b0.lt
 simp at c0 c1
 have f0:Fr [] w (w.alloc (.cells #[.int .i64 k,.int .i64 x] 34)):=rZ.alloc _
 obtain⟨w0,hw0⟩:∃ w0,w0=w.alloc (.cells #[.int .i64 k,.int .i64 x] 34):=⟨_,rfl⟩
 rw[<-hw0] at B0 c0 c1 hgl f0
 have HI:=hid (h.fr f0)
 have F0:=hid f0
 have HN:=hid (λW (f:Fr [] w0 W)=>bP W v l k (HI.fr f) (by omega) k0 k1)
 have HC:=hid (λW (f:Fr [] w0 W)=>(show W.cell? ⟨g,0,none⟩=some (.int .i64 k)/\W.cell? ⟨g,1,none⟩=some (.int .i64 x) from by
  have H:=B0.fr f (by simp)
  exact⟨H.cell 0,H.cell 1⟩))
 clear h b0 f0
 go_enter func31,ntmps31
 go_upto_region 1 with fail
 rw[<-hw0]
 try simp only[hg]
 clear hw0
 have hS:=And.intro c0 c1
 go_region_held3 (λw'=>w'.cell? ⟨g,0,none⟩=some (.int .i64 k)/\w'.cell? ⟨g,1,none⟩=some (.int .i64 x)) (first|go_keep|exact hS|(simpa[go_sem] using hS))
  (first
   | (go_at_call 32;refine(bP _ _ _ x (o1.bin.fr (by first|exact rZ|exact rZ.drewN _|exact rZ.drew)) (by simp;omega) x0 x1).mono ?_;rintro e w2 ⟨v2,rfl,o2',f2'⟩;have f2:Fr [] w1 w2:=(by first|exact f2'|exact(rZ.drewN _).trans f2'|exact(rZ.drew).trans f2');have o2:=o2';have hS:=HC.out w2 (f1.trans f2))
   | (go_at_call 32;refine(HN _ (by first|exact rZ|exact rZ.drewN _|exact rZ.drew)).mono ?_;rintro e w1 ⟨v1,rfl,o1,f1'⟩;have f1:Fr [] w0 w1:=(by first|exact f1'|exact(rZ.drewN _).trans f1'|exact(rZ.drew).trans f1');have hS:=HC.out w1 f1))
 all_goals
  go_wp2_with fail
  go_ret
  obtain⟨g2,c2,n2,rfl,h2,h3,h4⟩:=o2
  exact⟨_,rfl,⟨g2,c2,n2,rfl,Nat.le_trans (Nat.le_trans F0.size f1.size) (by simpa using h2),by simpa[En.iM] using h3,by simpa[En.iM] using h4⟩,(F0.trans f1).trans f2⟩
end Pr
