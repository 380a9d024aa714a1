/- Walks. -/
import Derived.Test.YtocppjcocnckmaaGreatDoorM00
import Derived.Test.YtocppjcocnckmaaGreatDoorM14
import Derived.Lib.Bytealg
import Derived.Lib.Bytes
set_option maxRecDepth 100000
set_option maxHeartbeats 8000000
set_option linter.all false
open Go.Lib (hid)
namespace Go.Proofs.YtocppjcocnckmaaGreatDoor
open Go.Proofs.Tryz
namespace Ct
open Go.RowKit
theorem p8 (a b:List UInt8)(c:UInt8)(h:c∉a):Lib.indexByte (a++c::b) c=(a.length:Int):=by
 induction a with
 | nil=>simp[Lib.indexByte]
 | cons x a ih =>
  have h1:(x==c)=false:=by
   simp only[List.mem_cons,not_or] at h
   simpa using λe=>h.1 e.symm
  have h2:=ih λhm=>h (List.mem_cons_of_mem _ hm)
  rw[List.cons_append,Lib.indexByte,h1,h2]
  have h3:((a.length:Int)==-1)=false:=by simp
  simp[h3]
theorem bJ (s:ByteArray)(i j:Nat):(s.extract i j).data.toList=(s.data.toList.take j).drop i:=by
 simp only[ByteArray.data_extract,Array.toList_extract,List.extract_eq_take_drop,List.take_drop]
 rcases Nat.lt_or_ge j i with h|h
 ·rw[List.drop_of_length_le (by simp;omega),List.drop_of_length_le (by simp;omega)]
 congr 2;omega
theorem gC {a b:ByteArray}(h:a.data.toList=b.data.toList):a=b:=by
 obtain⟨⟨a⟩⟩:=a
 obtain⟨⟨b⟩⟩:=b
 simp at h
 simp[h]
theorem kW {s a b:ByteArray}{c:UInt8}(h:s.data.toList=a.data.toList++c::b.data.toList):s.extract 0 a.size=a:=by
 apply gC
 rw[bJ,h]
 simp
theorem qs {s a b:ByteArray}{c:UInt8}(h:s.data.toList=a.data.toList++c::b.data.toList):s.extract (a.size+1) s.size=b:=by
 apply gC
 rw[bJ,List.take_of_length_le (by simp),h,show a.size+1=(a.data.toList++[c]).length by simp,show a.data.toList++c::b.data.toList=(a.data.toList++[c])++b.data.toList by simp,List.drop_left]
theorem iQ {s a b:ByteArray}{c:UInt8}(h:s.data.toList=a.data.toList++c::b.data.toList):s.size=a.size+b.size+1:=by
 have:=congrArg List.length h
 simp at this
 omega
theorem od (s:ByteArray)(c:Int)(w:World) :
  Calls prog 347 #[.string s,.int .u8 c] w λe w'=>e = .returned (.int .i64 (Lib.indexByte s.data.toList c.toNat.toUInt8))/\w=w':=by
 go_enter func347,ntmps347
 go_wp2
 rw[run_callFunc_extern func360 (by kernel_rfl) (by kernel_rfl) (by kernel_rfl) (e:=Extern.BytealgIndexByte.indexByte) (by kernel_rfl),Lib.run_indexByteString]
 simp only[Result.andThen]
 rw[Oper.upon_value]
 go_wp2
 go_ret
 exact⟨rfl,rfl⟩
theorem dr (s sep:ByteArray)(w:World)(hz:sep.size=1)(h2:2<=s.size) :
  Calls prog 328 #[.string s,.string sep] w λe w'=>e = .returned (.int .i64 (Lib.indexByte s.data.toList (sep[0]'(by omega))))/\w=w':=by
 have h1:(sep.size:Int)=1:=by omega
 have h0:0<sep.size:=by omega
 have hb:(sep.toList==s.toList)=false:=by
  rw[Lib.toList_data,Lib.toList_data]
  have:sep.data.toList≠s.data.toList:=λe=>by
   have:=congrArg List.length e
   simp at this
   omega
  simpa using this
 go_enter func328,ntmps328
 go_wp2_with fail
 refine(od s (sep[0]'h0).toNat w).mono ?_
 rintro e w' ⟨rfl,rfl⟩
 go_wp2_with fail
 go_ret
 exact⟨by simp,rfl⟩
theorem BL (s sep a b:ByteArray)(w:World)(hz:sep.size=1)(h:s.data.toList=a.data.toList++(sep[0]'(by omega))::b.data.toList)(hn:(sep[0]'(by omega))∉a.data.toList)(h2:2<=s.size)(hs:s.size<=100000) :
  Calls prog 300 #[.string s,.string sep] w λe w'=>e = .returned (.tuple #[.string a,.string b,.bool true])/\Fr [] w w':=by
 have hi:=dr s sep w hz h2
 rw[h,p8 _ _ _ hn] at hi
 have hsz:=iQ h
 have e1:=kW h
 have e2:=qs h
 have hl:a.data.toList.length=a.size:=by simp
 rw[hl] at hi
 have HI:=hid hi
 have E1:=hid e1
 have E2:=hid e2
 have h1:(sep.size:Int)=1:=by omega
 have hle:a.size<=s.size:=by omega
 have hle1:a.size+1<=s.size:=by omega
 clear h hn hi e1 e2
 go_enter func300,ntmps300
 go_wp2_with fail
 refine HI.mono ?_
 rintro e w' ⟨rfl,rfl⟩
 go_wp2_with fail
 go_quiet (fail)
 go_wp2_with fail
 go_ret3
 rw[hsz] at E2
 refine⟨?_,rZ.drewN _⟩
 show Ending.returned (.tuple #[.string (s.extract 0 a.size),.string (s.extract (a.size+1) (a.size+b.size+1)),.bool true])=_
 rw[E1,E2]
theorem qv (s sep a b:ByteArray)(w:World)(hz:sep.size=1)(h:s.data.toList=a.data.toList++(sep[0]'(by omega))::b.data.toList)(hn:(sep[0]'(by omega))∉a.data.toList)(h2:2<=s.size)(hs:s.size<=100000) :
  Calls prog 263 #[.string s,.string sep] w λe w'=>e = .returned (.tuple #[.string a,.string b,.bool true])/\Fr [] w w':=by
 have HI:=hid (BL s sep a b w hz h hn h2 hs)
 clear h hn
 go_enter func263,ntmps263
 go_wp2_with fail
 refine uu HI λw' f1=>?_
 go_wp2_with fail
 go_ret3
 exact⟨rfl,f1⟩
def Fx (v:Value):Nat:=match v with|.string s=>s.size|_=>0
end Ct
namespace Fd
open Go.RowKit Fm Ct
theorem cw {s:ByteArray}{k:Nat}(h:k<s.size):s[k]∈s.data.toList:=by
 have:s.data.toList[k]'(by simpa using h)=s[k]:=rfl
 rw[<-this]
 exact List.getElem_mem _
def Acc (w0 w:World)(v:Value)(l:List UInt8):Prop:=(v = .slice none 0 0/\l=[])∨ln w0 w v l
theorem Acc.fr {w0 w w':World}{v:Value}{l:List UInt8}(h:Acc w0 w v l)(hf:Fr [] w w'):Acc w0 w' v l:=h.imp id λh=>h.fr hf
abbrev fc (v:ByteArray):List Value:=[.int .i64 1,.int .i64 0,.string v]
end Fd
