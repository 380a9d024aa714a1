/- Walks. -/
import Derived.WalkKit
import Derived.Deep.Draws
import Derived.Deep.QuietTactic
import Derived.BigQuiet
import Derived.Handy
import Derived.Lib.Hide
set_option maxRecDepth 100000
set_option maxHeartbeats 8000000
set_option linter.all false
namespace Go.Proofs.YtocppjcocnckmaaGreatDoor
open Go.RowKit
theorem bM {k:IntKind}{a b:Int}(h:a=b):Ending.returned (.int k a) = .returned (.int k b):=by rw[h]
theorem dI {a b:Bool}(h:a=b):Ending.returned (.bool a) = .returned (.bool b):=by rw[h]
theorem mI {a b:ByteArray}(h:a=b):Ending.returned (.string a) = .returned (.string b):=by rw[h]
theorem int_eq {k:IntKind}{a b:Int}(h:a=b):Value.int k a = .int k b:=by rw[h]
def Holds (w:World)(g:Nat)(t:TypeId)(cs:Array Value):Prop:=w.heap[g]? = some (.cells cs t (0,0))
structure Fr (S:List Nat)(w w':World):Prop where
 os:w'.os=w.os
 tape:w'.tape=w.tape
 output:w'.output=w.output
 size:w.heap.size<=w'.heap.size
 block:∀ k,k<w.heap.size->k∉S->w'.heap[k]? = w.heap[k]?
section
variable {w w' w'':World} {g:Nat} {t:TypeId} {cs:Array Value} {S T:List Nat}
theorem Holds.lt (h:Holds w g t cs):g<w.heap.size:=by
 unfold Holds at h
 rcases Nat.lt_or_ge g w.heap.size with h'|h'
 ·exact h'
 rw[Array.getElem?_eq_none h'] at h;cases h
theorem Holds.cell (h:Holds w g t cs)(i:Nat):w.cell? ⟨g,i,none⟩=cs[i]?:=by
 unfold Holds at h
 simp[World.cell?,h]
theorem Holds.frozen (h:Holds w g t cs)(i:Nat):w.frozen? ⟨g,i,none⟩=false:=by
 unfold Holds at h
 simp[World.frozen?,h]
theorem Holds.dW {w:World} {g t:Nat} {cs:Array Value} (h:Holds w g t cs): w.cell? ⟨g,0,none⟩=cs[0]?/\w.cell? ⟨g,1,none⟩=cs[1]?/\w.cell? ⟨g,2,none⟩=cs[2]?/\w.cell? ⟨g,3,none⟩=cs[3]?/\w.cell? ⟨g,4,none⟩=cs[4]?/\w.cell? ⟨g,5,none⟩=cs[5]?/\w.cell? ⟨g,6,none⟩=cs[6]?/\w.cell? ⟨g,7,none⟩=cs[7]?/\w.cell? ⟨g,8,none⟩=cs[8]?/\w.cell? ⟨g,9,none⟩=cs[9]?/\w.cell? ⟨g,10,none⟩=cs[10]?:=⟨h.cell 0,h.cell 1,h.cell 2,h.cell 3,h.cell 4,h.cell 5,h.cell 6,h.cell 7,h.cell 8,h.cell 9,h.cell 10⟩
theorem uu {P:Program}{f:FuncId}{a:Array Value}{w:World}{r:Value}{R:World->Prop}{Q:Ending->World->Prop} (h:Calls P f a w fun e w'=>e = .returned r∧R w') (k:∀ w',R w'->Q (.returned r) w'):Calls P f a w Q:=h.mono fun e w' g=>by
 obtain⟨rfl,g⟩:=g
 exact k w' g
theorem Holds.cs8 {w:World} {g t:Nat} {cs:Array Value} (h:Holds w g t cs): w.cell? ⟨g,0,none⟩=cs[0]?/\w.cell? ⟨g,1,none⟩=cs[1]?/\w.cell? ⟨g,2,none⟩=cs[2]?/\w.cell? ⟨g,3,none⟩=cs[3]?/\w.cell? ⟨g,4,none⟩=cs[4]?/\w.cell? ⟨g,5,none⟩=cs[5]?/\w.cell? ⟨g,6,none⟩=cs[6]?/\w.cell? ⟨g,7,none⟩=cs[7]?:=⟨h.cell 0,h.cell 1,h.cell 2,h.cell 3,h.cell 4,h.cell 5,h.cell 6,h.cell 7⟩
theorem Holds.BM {w:World} {g t:Nat} {cs:Array Value} (h:Holds w g t cs): w.cell? ⟨g,0,none⟩=cs[0]?/\w.cell? ⟨g,1,none⟩=cs[1]?/\w.cell? ⟨g,2,none⟩=cs[2]?/\w.cell? ⟨g,3,none⟩=cs[3]?/\w.cell? ⟨g,4,none⟩=cs[4]?/\w.cell? ⟨g,5,none⟩=cs[5]?/\w.cell? ⟨g,6,none⟩=cs[6]?/\w.cell? ⟨g,7,none⟩=cs[7]?/\w.cell? ⟨g,8,none⟩=cs[8]?/\w.cell? ⟨g,9,none⟩=cs[9]?/\w.cell? ⟨g,10,none⟩=cs[10]?/\w.cell? ⟨g,11,none⟩=cs[11]?/\w.cell? ⟨g,12,none⟩=cs[12]?/\w.cell? ⟨g,13,none⟩=cs[13]?/\w.cell? ⟨g,14,none⟩=cs[14]?:=⟨h.cell 0,h.cell 1,h.cell 2,h.cell 3,h.cell 4,h.cell 5,h.cell 6,h.cell 7,h.cell 8,h.cell 9,h.cell 10,h.cell 11,h.cell 12,h.cell 13,h.cell 14⟩
theorem Holds.cs9 {w:World} {g t:Nat} {cs:Array Value} (h:Holds w g t cs): w.cell? ⟨g,0,none⟩=cs[0]?/\w.cell? ⟨g,1,none⟩=cs[1]?/\w.cell? ⟨g,2,none⟩=cs[2]?/\w.cell? ⟨g,3,none⟩=cs[3]?/\w.cell? ⟨g,4,none⟩=cs[4]?/\w.cell? ⟨g,5,none⟩=cs[5]?/\w.cell? ⟨g,6,none⟩=cs[6]?/\w.cell? ⟨g,7,none⟩=cs[7]?/\w.cell? ⟨g,8,none⟩=cs[8]?:=⟨h.cell 0,h.cell 1,h.cell 2,h.cell 3,h.cell 4,h.cell 5,h.cell 6,h.cell 7,h.cell 8⟩
theorem Holds.uL {w:World} {g t:Nat} {cs:Array Value} (h:Holds w g t cs): w.frozen? ⟨g,0,none⟩=false/\w.frozen? ⟨g,1,none⟩=false/\w.frozen? ⟨g,2,none⟩=false/\w.frozen? ⟨g,3,none⟩=false/\w.frozen? ⟨g,4,none⟩=false/\w.frozen? ⟨g,5,none⟩=false/\w.frozen? ⟨g,6,none⟩=false/\w.frozen? ⟨g,7,none⟩=false/\w.frozen? ⟨g,8,none⟩=false/\w.frozen? ⟨g,9,none⟩=false/\w.frozen? ⟨g,10,none⟩=false:=⟨h.frozen 0,h.frozen 1,h.frozen 2,h.frozen 3,h.frozen 4,h.frozen 5,h.frozen 6,h.frozen 7,h.frozen 8,h.frozen 9,h.frozen 10⟩
theorem Holds.fz8 {w:World} {g t:Nat} {cs:Array Value} (h:Holds w g t cs): w.frozen? ⟨g,0,none⟩=false/\w.frozen? ⟨g,1,none⟩=false/\w.frozen? ⟨g,2,none⟩=false/\w.frozen? ⟨g,3,none⟩=false/\w.frozen? ⟨g,4,none⟩=false/\w.frozen? ⟨g,5,none⟩=false/\w.frozen? ⟨g,6,none⟩=false/\w.frozen? ⟨g,7,none⟩=false:=⟨h.frozen 0,h.frozen 1,h.frozen 2,h.frozen 3,h.frozen 4,h.frozen 5,h.frozen 6,h.frozen 7⟩
theorem Holds.Gj {w:World} {g t:Nat} {cs:Array Value} (h:Holds w g t cs): w.frozen? ⟨g,0,none⟩=false/\w.frozen? ⟨g,1,none⟩=false/\w.frozen? ⟨g,2,none⟩=false/\w.frozen? ⟨g,3,none⟩=false/\w.frozen? ⟨g,4,none⟩=false/\w.frozen? ⟨g,5,none⟩=false/\w.frozen? ⟨g,6,none⟩=false/\w.frozen? ⟨g,7,none⟩=false/\w.frozen? ⟨g,8,none⟩=false/\w.frozen? ⟨g,9,none⟩=false/\w.frozen? ⟨g,10,none⟩=false/\w.frozen? ⟨g,11,none⟩=false/\w.frozen? ⟨g,12,none⟩=false/\w.frozen? ⟨g,13,none⟩=false/\w.frozen? ⟨g,14,none⟩=false:=⟨h.frozen 0,h.frozen 1,h.frozen 2,h.frozen 3,h.frozen 4,h.frozen 5,h.frozen 6,h.frozen 7,h.frozen 8,h.frozen 9,h.frozen 10,h.frozen 11,h.frozen 12,h.frozen 13,h.frozen 14⟩
theorem Holds.new (w:World)(t:TypeId)(cs:Array Value):Holds (w.alloc (.cells cs t)) w.heap.size t cs:=heap_alloc_new w _
theorem Holds.drew (h:Holds w g t cs):Holds w.drew g t cs:=h
theorem Holds.drewN (h:Holds w g t cs)(n:Nat):Holds (w.drewN n) g t cs:=h
theorem Holds.alloc (h:Holds w g t cs)(o:Obj):Holds (w.alloc o) g t cs:=(Below.heap_alloc w o g h.lt).trans h
theorem Holds.set (h:Holds w g t cs)(i:Nat)(u:Value):Holds (w.setCell ⟨g,i,none⟩ u) g t (cs.setIfInBounds i u):=by
 unfold Holds at h ⊢
 simp[World.setCell,Array.getElem?_modify,h]
theorem Holds.far (h:Holds w g t cs){p:Addr}(hp:g≠p.block)(u:Value):Holds (w.setCell p u) g t cs:=(Below.heap_setCell w p u g hp).trans h
theorem Holds.fr (h:Holds w g t cs)(hf:Fr S w w')(hg:g∉S):Holds w' g t cs:=(hf.block g h.lt hg).trans h
theorem Holds.ne {g':Nat}{t':TypeId}{cs':Array Value}(h:Holds w g t cs)(h':Holds w g' t' cs')(hne:t≠t'):g≠g':=by
 rintro rfl
 unfold Holds at h h'
 rw[h] at h'
 injection h' with h'
 injection h' with _ ht
 exact hne ht
theorem Fr.refl (S:List Nat)(w:World):Fr S w w:=⟨rfl,rfl,rfl,Nat.le_refl _,λ_ _ _=>rfl⟩
theorem rZ {S:List Nat} {w:World}:Fr S w w:=Fr.refl S w
theorem Fr.trans (h:Fr S w w')(k:Fr S w' w''):Fr S w w'' :=
 ⟨k.os.trans h.os,k.tape.trans h.tape,k.output.trans h.output,Nat.le_trans h.size k.size,λi hi hn=>(k.block i (Nat.lt_of_lt_of_le hi h.size) hn).trans (h.block i hi hn)⟩
theorem Fr.mono (h:Fr S w w')(hST:∀ k,k∈S->k∈T):Fr T w w':=⟨h.os,h.tape,h.output,h.size,λk hk hn=>h.block k hk λhs=>hn (hST k hs)⟩
theorem Fr.nil (h:Fr [] w w'):Fr T w w':=h.mono λ_ hk=>by cases hk
theorem Fr.drew (h:Fr S w w'):Fr S w w'.drew:=⟨h.os,h.tape,h.output,h.size,h.block⟩
theorem Fr.drewN (h:Fr S w w')(n:Nat):Fr S w (w'.drewN n):=⟨h.os,h.tape,h.output,h.size,h.block⟩
theorem Fr.alloc (h:Fr S w w')(o:Obj):Fr S w (w'.alloc o) :=
 ⟨h.os,h.tape,h.output,Nat.le_trans h.size (by simp),λk hk hn=>(Below.heap_alloc w' o k (Nat.lt_of_lt_of_le hk h.size)).trans (h.block k hk hn)⟩
theorem Fr.setCell (h:Fr S w w'){p:Addr}(hp:p.block∈S)(u:Value):Fr S w (w'.setCell p u) :=
 ⟨h.os,h.tape,h.output,by simpa[World.setCell] using h.size,λk hk hn=>(Below.heap_setCell w' p u k (λe=>hn (e ▸ hp))).trans (h.block k hk hn)⟩
theorem Fr.aw (h:Fr S w w'){p:Addr}(hp:w.heap.size<=p.block)(u:Value):Fr S w (w'.setCell p u) :=
 ⟨h.os,h.tape,h.output,by simpa[World.setCell] using h.size,λk hk hn=>(Below.heap_setCell w' p u k (by omega)).trans (h.block k hk hn)⟩
theorem Fr.fresh (h:Fr S w w')(hS:∀ k,k∈S->w.heap.size<=k):Fr [] w w' :=
 ⟨h.os,h.tape,h.output,h.size,λk hk _=>h.block k hk λhs=>absurd (hS k hs) (by omega)⟩
theorem Fr.step (h:Fr T w w')(k:Fr S w' w'')(hS:∀ x,x∈S->x∈T∨w.heap.size<=x):Fr T w w'' :=
 ⟨k.os.trans h.os,k.tape.trans h.tape,k.output.trans h.output,Nat.le_trans h.size k.size,λi hi hn=>(k.block i (Nat.lt_of_lt_of_le hi h.size) (λhs=>by
   rcases hS i hs with h'|h'
   ·exact hn h'
   omega)).trans (h.block i hi hn)⟩
theorem Fr.below (h:Fr [] w w'):Below w.heap.size w w':=⟨h.os,h.tape,h.output,h.size,λk hk=>h.block k hk (by simp)⟩
theorem Fr.rU (h:Below w.heap.size w w'):Fr [] w w':=⟨h.os,h.tape,h.output,h.size,λk hk _=>h.block k hk⟩
theorem Fr.iF {row:Option Nat}(h:w.grownBy w' row)(hr:∀ k,row=some k->k∈S):Fr S w w' :=
 ⟨h.os,h.tape,h.output,h.size,λk hk hn=>h.block k hk (λe=>hn (hr k e.symm))⟩
theorem DZ {b o:Nat}{v:Value}(h:w.cell? ⟨b,o,none⟩=some v)(hf:Fr S w w')(hb:b<w.heap.size)(hS:b∉S):w'.cell? ⟨b,o,none⟩=some v :=
 (World.cell?_of_block (w:=w) (hf.block b hb hS)).trans h
theorem Fr.cell (hf:Fr S w w'){b o:Nat}{v:Value}(h:w.cell? ⟨b,o,none⟩=some v)(hb:b<w.heap.size)(hS:b∉S):w'.cell? ⟨b,o,none⟩=some v:=DZ h hf hb hS
theorem bB {P:Program}{f:FuncId}{args:Array Value}{n:Nat}{v:Value}(h:Calls P f args (w.drewN n) λe w'=>e = .returned v/\w.drewN n=w') :
  Calls P f args (w.drewN n) λe w''=>e = .returned v/\∃ m,w''=w.drewN m:=h.mono λ_ _ ⟨he,hm⟩=>⟨he,n,hm.symm⟩
theorem uh {P:Program}{f:FuncId}{args:Array Value}{n:Nat}{v:Value}(h:Calls P f args (w.drewN n) λe w'=>e = .returned v/\∃ m,w'=(w.drewN n).drewN m) :
  Calls P f args (w.drewN n) λe w''=>e = .returned v/\∃ m,w''=w.drewN m:=h.mono λ_ _ ⟨he,m,hm⟩=>⟨he,n+m,by rw[hm,World.drewN_drewN]⟩
end
