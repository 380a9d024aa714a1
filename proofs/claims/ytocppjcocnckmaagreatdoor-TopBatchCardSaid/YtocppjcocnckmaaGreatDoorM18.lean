/- Walks. -/
import Derived.Test.YtocppjcocnckmaaGreatDoorM03
import Derived.Test.YtocppjcocnckmaaGreatDoorM07
import Derived.Shelf.Unicode.ValidAny
set_option maxRecDepth 100000
set_option maxHeartbeats 8000000
set_option linter.all false
namespace Go.Proofs.YtocppjcocnckmaaGreatDoor
open Go.Proofs.Tryz
namespace Sh
open Go.Shelf Go.RowKit
structure Gl (w:World):Prop where
 mx:∃ m,w.cell? ⟨0,0,none⟩=some (.int .i64 m)
 u8:Lib.Utf8Tabs 1 2 w
 p10:∃ cs t s,w.heap[3]? = some (.cells cs t s)/\cs=(Lib.pow10Tab.map λz=>Value.int .u64 z).toArray
theorem BC : prog.globalNamed "internal/strconv.uint64pow10" = some 3 := by kernel_rfl
theorem Gl.tab {w : World} (h : Gl w) : Lib.TabIs prog w "internal/strconv.uint64pow10" .u64 Lib.pow10Tab := by
 obtain⟨cs,t,s,h1,h2⟩:=h.p10
 unfold Lib.TabIs World.var?
 rw[BC]
 simp[h1,h2]
theorem Gl.size {w:World}(h:Gl w):3<w.heap.size:=by
 obtain⟨cs,t,s,h1,_⟩:=h.p10
 exact(Array.getElem?_eq_some_iff.1 h1).1
theorem Gl.same {w w':World}(h:Gl w)(e:∀ k,k<=3->w'.heap[k]? = w.heap[k]?):Gl w':=by
 obtain⟨⟨m,hm⟩,⟨h1,h2⟩,h3⟩:=h
 refine⟨⟨m,(World.cell?_of_block (a:=⟨0,0,none⟩) (e 0 (by omega))).trans hm⟩,⟨λc hc=>(World.cell?_of_block (a:=⟨1,c,none⟩) (e 1 (by omega))).trans (h1 c hc),λi hi=>⟨(World.cell?_of_block (a:=⟨2,2*i,none⟩) (e 2 (by omega))).trans (h2 i hi).1,(World.cell?_of_block (a:=⟨2,2*i+1,none⟩) (e 2 (by omega))).trans (h2 i hi).2⟩⟩,?_⟩
 rw[e 3 (by omega)]
 exact h3
theorem Gl.fr {w w':World}{S:List Nat}(h:Gl w)(f:Fr S w w')(hS:∀ k,k∈S->4<=k):Gl w' :=
 h.same λk hk=>f.block k (by have:=h.size;omega) (λhs=>by have:=hS k hs;omega)
theorem Gl.fr0 {w w':World}(h:Gl w)(f:Fr [] w w'):Gl w':=h.fr f (by simp)
theorem Gl.frx {w w':World}{B:Nat}{Ts:List TypeId}{S:List Nat}(h:Gl w)(f:FrX B Ts S w w')(hB:4<=B):Gl w' :=
 h.same λk hk=>f.block k (by have:=h.size;omega) (.inl (by omega))
theorem zF (s:ByteArray)(w:World)(hg:Gl w)(hs:s.size<=100000)(hv:Lib.validD s.data.toList=true) :
  Calls prog 366 #[.string s] w λe w'=>e = .returned (.bool true)/\Fr [] w w':=by
 refine uu (Any.utf8_ValidString wg s w (by omega) hg.u8) λw' h=>?_
 rw[hv]
 exact⟨rfl,⟨h.os,h.tape,h.output,h.size,λk hk _=>h.block k hk⟩⟩
theorem Dy (n:Int)(w:World)(hg:Gl w)(h0:0<=n)(h1:n<=9999):Calls prog 393 #[.int .i64 n] w λe w'=>e = .returned (.string ⟨(Lib.itoa n).toArray⟩)/\∃ k os,w'=«Sort».grow (w.drewN k) os:=Bo n w (by omega) (by omega) hg.tab
end Sh
