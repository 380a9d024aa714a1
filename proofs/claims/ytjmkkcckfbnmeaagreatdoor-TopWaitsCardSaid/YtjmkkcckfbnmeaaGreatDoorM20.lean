/- Texts Cut, Fld. -/
import Derived.Test.YtjmkkcckfbnmeaaGreatDoorM00
import Derived.Test.YtjmkkcckfbnmeaaGreatDoorM12
import Derived.Lib.Bytealg
import Derived.Lib.Bytes
set_option maxRecDepth 100000
set_option maxHeartbeats 8000000
set_option linter.all false
open Go.Lib (hid)
namespace Go.Proofs.YtjmkkcckfbnmeaaGreatDoor.Ct
open Go.RowKit
theorem indexByte_at (a b:List UInt8)(c:UInt8)(h:c∉a):Lib.indexByte (a++c::b) c=(a.length:Int):=by
 induction a with
 | nil=>simp[Lib.indexByte]
 | cons x a ih =>
  have h1:(x==c)=false:=by
   simp only[List.mem_cons,not_or] at h
   simpa using fun e=>h.1 e.symm
  have h2:=ih fun hm=>h (List.mem_cons_of_mem _ hm)
  rw[List.cons_append,Lib.indexByte,h1,h2]
  have h3:((a.length:Int)==-1)=false:=by simp
  simp[h3]
theorem extract_list (s:ByteArray)(i j:Nat):(s.extract i j).data.toList=(s.data.toList.take j).drop i:=by
 simp only[ByteArray.data_extract,Array.toList_extract,List.extract_eq_take_drop,List.take_drop]
 rcases Nat.lt_or_ge j i with h|h
 ·rw[List.drop_of_length_le (by simp;omega),List.drop_of_length_le (by simp;omega)]
 ·congr 2;omega
theorem ba_ext {a b:ByteArray}(h:a.data.toList=b.data.toList):a=b:=by
 obtain⟨⟨a⟩⟩:=a
 obtain⟨⟨b⟩⟩:=b
 simp at h
 simp[h]
theorem extract_head {s a b:ByteArray}{c:UInt8}(h:s.data.toList=a.data.toList++c::b.data.toList):s.extract 0 a.size=a:=by
 apply ba_ext
 rw[extract_list,h]
 simp
theorem extract_tail {s a b:ByteArray}{c:UInt8}(h:s.data.toList=a.data.toList++c::b.data.toList):s.extract (a.size+1) s.size=b:=by
 apply ba_ext
 rw[extract_list,List.take_of_length_le (by simp),h,show a.size+1=(a.data.toList++[c]).length by simp,show a.data.toList++c::b.data.toList=(a.data.toList++[c])++b.data.toList by simp,List.drop_left]
theorem size_of {s a b:ByteArray}{c:UInt8}(h:s.data.toList=a.data.toList++c::b.data.toList):s.size=a.size+b.size+1:=by
 have:=congrArg List.length h
 simp at this
 omega
theorem byte_any (s:ByteArray)(c:Int)(w:World) :
  Calls Tryz.prog 343 #[.string s,.int .u8 c] w fun e w'=>e = .returned (.int .i64 (Lib.indexByte s.data.toList c.toNat.toUInt8))∧w=w':=by
 go_enter Tryz.func343,Tryz.ntmps343
 go_wp2
 rw[run_callFunc_extern Tryz.func358 (by kernel_rfl) (by kernel_rfl) (by kernel_rfl) (e:=Extern.BytealgIndexByte.indexByte) (by kernel_rfl),Lib.run_indexByteString]
 simp only[Result.andThen]
 rw[Oper.upon_value]
 go_wp2
 go_ret
 exact⟨rfl,rfl⟩
theorem index_any (s sep:ByteArray)(w:World)(hz:sep.size=1)(h2:2≤s.size) :
  Calls Tryz.prog 324 #[.string s,.string sep] w fun e w'=>e = .returned (.int .i64 (Lib.indexByte s.data.toList (sep[0]'(by omega))))∧w=w':=by
 have h1:(sep.size:Int)=1:=by omega
 have h0:0<sep.size:=by omega
 have hb:(sep.toList==s.toList)=false:=by
  rw[Lib.toList_data,Lib.toList_data]
  have:sep.data.toList≠s.data.toList:=fun e=>by
   have:=congrArg List.length e
   simp at this
   omega
  simpa using this
 go_enter Tryz.func324,Tryz.ntmps324
 go_wp2_with (fail)
 refine(byte_any s (sep[0]'h0).toNat w).mono ?_
 rintro e w' ⟨rfl,rfl⟩
 go_wp2_with (fail)
 go_ret
 exact⟨by simp,rfl⟩
theorem cutl_any (s sep a b:ByteArray)(w:World)(hz:sep.size=1)(h:s.data.toList=a.data.toList++(sep[0]'(by omega))::b.data.toList)(hn:(sep[0]'(by omega))∉a.data.toList)(h2:2≤s.size)(hs:s.size≤100000) :
  Calls Tryz.prog 294 #[.string s,.string sep] w fun e w'=>e = .returned (.tuple #[.string a,.string b,.bool true])∧Fr [] w w':=by
 have hi:=index_any s sep w hz h2
 rw[h,indexByte_at _ _ _ hn] at hi
 have hsz:=size_of h
 have e1:=extract_head h
 have e2:=extract_tail h
 have hl:a.data.toList.length=a.size:=by simp
 rw[hl] at hi
 have HI:=hid hi
 have E1:=hid e1
 have E2:=hid e2
 have h1:(sep.size:Int)=1:=by omega
 have hle:a.size≤s.size:=by omega
 have hle1:a.size+1≤s.size:=by omega
 clear h hn hi e1 e2
 go_enter Tryz.func294,Tryz.ntmps294
 go_wp2_with (fail)
 refine HI.out.mono ?_
 rintro e w' ⟨rfl,rfl⟩
 go_wp2_with (fail)
 go_quiet (fail)
 go_wp2_with (fail)
 go_ret3
 rw[hsz] at E2
 refine⟨?_,(Fr.refl _ _).drewN _⟩
 show Ending.returned (.tuple #[.string (s.extract 0 a.size),.string (s.extract (a.size+1) (a.size+b.size+1)),.bool true])=_
 rw[E1.out,E2.out]
theorem cut_any (s sep a b:ByteArray)(w:World)(hz:sep.size=1)(h:s.data.toList=a.data.toList++(sep[0]'(by omega))::b.data.toList)(hn:(sep[0]'(by omega))∉a.data.toList)(h2:2≤s.size)(hs:s.size≤100000) :
  Calls Tryz.prog 256 #[.string s,.string sep] w fun e w'=>e = .returned (.tuple #[.string a,.string b,.bool true])∧Fr [] w w':=by
 have HI:=hid (cutl_any s sep a b w hz h hn h2 hs)
 clear h hn
 go_enter Tryz.func256,Tryz.ntmps256
 go_wp2_with (fail)
 refine HI.out.mono ?_
 rintro e w' ⟨rfl,f1⟩
 go_wp2_with (fail)
 go_ret3
 exact⟨rfl,f1⟩
def szOf (v:Value):Nat:=match v with|.string s=>s.size|_=>0
def Short (s:ByteArray):Prop:=s.size≤7∧∀ c∈s.data.toList,c.toNat<128
theorem short_tail {s:ByteArray}(h:Short s):Short (s.extract 1 s.size):=by
 refine⟨by simp;have:=h.1;omega,fun c hc=>h.2 c ?_⟩
 rw[extract_list] at hc
 exact List.mem_of_mem_take (List.mem_of_mem_drop hc)
theorem valid_any (s:ByteArray)(w:World)(h:Short s) :
  Calls Tryz.prog 364 #[.string s] w fun e w'=>e = .returned (.bool true)∧w=w':=by
 go_enter Tryz.func364,Tryz.ntmps364
 go_wp2_with (fail)
 go_loop [0] (fun v=>∃ t:ByteArray,v = .string t∧Short t) (fun v=>szOf v)
 case atStart=>exact⟨s,rfl,h⟩
 case round =>
  obtain⟨t,rfl,ht⟩:=hrel
  have h7:=ht.1
  by_cases hlt:0<t.size
  ·have h0:(t[0]'hlt).toNat<128:=ht.2 _ (by
    have:t.data.toList[0]'(by simpa using hlt)=t[0]'hlt:=rfl
    rw[←this]
    exact List.getElem_mem _)
   have HT:=hid (short_tail ht)
   have hlt':1≤t.size:=hlt
   clear ht
   go_wp2_with (fail)
   go_round
   case rel=>exact⟨_,rfl,HT.out⟩
   case measure=>simp[szOf];omega
  ·go_wp2_with (fail)
   go_ret
   exact⟨rfl,rfl⟩
end Go.Proofs.YtjmkkcckfbnmeaaGreatDoor.Ct
namespace Go.Proofs.YtjmkkcckfbnmeaaGreatDoor.Fd
open Go.RowKit Fm Ct
structure Plain (v:ByteArray):Prop where
 s1:1≤v.size
 s2:v.size≤7
 vis:∀ c∈v.data.toList,33≤c.toNat∧c.toNat≤126∧c.toNat≠58
theorem Plain.short {v:ByteArray}(h:Plain v):Short v:=⟨h.s2,fun c hc=>by have:=h.vis c hc;omega⟩
theorem mem_at {s:ByteArray}{k:Nat}(h:k<s.size):s[k]∈s.data.toList:=by
 have:s.data.toList[k]'(by simpa using h)=s[k]:=rfl
 rw[←this]
 exact List.getElem_mem _
def Acc (w0 w:World)(v:Value)(l:List UInt8):Prop:=(v = .slice none 0 0∧l=[])∨BOut w0 w v l
theorem Acc.fr {w0 w w':World}{v:Value}{l:List UInt8}(h:Acc w0 w v l)(hf:Fr [] w w'):Acc w0 w' v l:=h.imp id fun h=>h.fr hf
theorem clean_any (v:ByteArray)(w:World)(h:Plain v) :
  Calls Tryz.prog 349 #[.string v] w fun e w'=>e = .returned (.tuple #[.string v,.int .i64 0])∧Fr [] w w':=by
 obtain⟨i5,hi,hz0,hz1,hz2⟩:=info_parts info5
 have h1:=h.s1
 have h2:=h.s2
 go_enter Tryz.func349,Tryz.ntmps349
 go_wp2_with (fail)
 refine(valid_any v w h.short).mono ?_
 rintro e w' ⟨rfl,rfl⟩
 go_wp2_with (fail)
 go_loop [13] (fun i=>∃ k:Nat,k≤v.size∧i = .int .i64 k) (fun i=>v.size - (intOf i).toNat)
 case atStart=>exact⟨0,Nat.zero_le _,rfl⟩
 case round =>
  obtain⟨k,hk,rfl⟩:=hrel
  by_cases hlt:k<v.size
  ·have hv:=h.vis _ (mem_at hlt)
   have a1:¬ ((v[k].toNat:Int)<32):=by omega
   have a2:¬ ((v[k].toNat:Int)=127):=by omega
   have d1:decide ((v[k].toNat:Int)<32)=false:=decide_eq_false a1
   have d2:((v[k].toNat:Int)==127)=false:=by simpa using a2
   go_wp2_with (fail)
   go_round
   case rel=>exact⟨k+1,by omega,by go_num⟩
   case measure=>simp[intOf];omega
  ·obtain rfl:k=v.size:=by omega
   go_wp2_with (fail)
   go_loopw [5,29] (fun o i wr=>∃ k:Nat,k≤v.size∧i = .int .i64 k∧Acc w wr o (v.data.toList.take k)∧Fr [] w wr) (fun _ i _=>v.size - (intOf i).toNat)
   case atStart=>exact⟨0,Nat.zero_le _,rfl,.inl ⟨rfl,rfl⟩,Fr.refl _ _⟩
   case round =>
    obtain⟨k,hk,rfl,ha,fr⟩:=hrel
    by_cases hlt:k<v.size
    ·have hv:=h.vis _ (mem_at hlt)
     have a1:¬ ((v[k].toNat:Int)=32):=by omega
     have d1:((v[k].toNat:Int)==32)=false:=by simpa using a1
     have hcell:[Value.int .u8 v[k].toNat]=bc [v[k]]:=by simp[bc]
     have HC:=hid hcell
     clear hcell
     have HT:=hid (take_snoc v k hlt)
     have hln:(v.data.toList.take k).length=k:=by simp;omega
     rcases ha with⟨rfl,hnil⟩|⟨g,c,n,rfl,hg,hn,hr⟩
     ·have hk0:k=0:=by
       rw[hnil] at hln
       simpa using hln.symm
      subst hk0
      go_wp2_with (at_builtin;(refine wpList_append_sl rfl (.tmp 50) (.tmp 54) 90 rfl i5 _ 1 Tryz.underlying90 hi hz0 hz1 hz2 rfl (by decide) _ _ rfl (Sl.nil _ _ _) _ 1 1 [.int .u8 v[0].toNat] rfl rfl (Cells.one (Holds.new wr 5 #[.int .u8 v[0].toNat])) (by simp[Value.oneCell']) (by unfold maxLen;omega) (by omega) ?_;intro v3 w3 own3 hs3 hf3 ho3 hm3;obtain⟨g3,c3,rfl,rfl,hg3,r3⟩:=got_row (B:=w.heap.size) hs3 ho3 (by have:=fr.size;simp;omega) (by simp) (hm3 (by omega))))
      go_roundw
      case rel=>exact⟨1,by omega,rfl,.inr ⟨g3,c3,1,rfl,hg3,by simp;omega,by rw[HT.out,List.take_zero,List.nil_append,←HC.out];simpa using r3⟩,(fr.alloc _).step hf3 (by simp)⟩
      case measure=>simp[intOf];omega
     ·have hnk:n=k:=by rw[←hn,hln]
      subst hnk
      go_wp2_with (at_builtin;(refine wpList_append_sl rfl (.tmp 50) (.tmp 54) 90 rfl i5 _ 1 Tryz.underlying90 hi hz0 hz1 hz2 rfl (by decide) _ _ rfl ((Sl.row hr).fr0 ((Fr.refl [] wr).alloc _)) _ 1 1 [.int .u8 v[n].toNat] rfl rfl (Cells.one (Holds.new wr 5 #[.int .u8 v[n].toNat])) (by simp[Value.oneCell']) (by unfold maxLen;omega) (by omega) ?_;intro v3 w3 own3 hs3 hf3 ho3 hm3;obtain⟨g3,c3,rfl,rfl,hg3,r3⟩:=got_some (B:=w.heap.size) hs3 ho3 (by have:=fr.size;simp;omega) hg))
      go_roundw
      case rel=>exact⟨n+1,by omega,by go_num,.inr ⟨g3,c3,n+1,rfl,hg3,by simp;omega,by rw[HT.out,bc_append,←HC.out];exact r3⟩,(fr.alloc _).step hf3 (by simpa using hg)⟩
      case measure=>simp[intOf];omega
    ·obtain rfl:k=v.size:=by omega
     have ht:v.data.toList.take v.size=v.data.toList:=List.take_of_length_le (by simp)
     rw[ht] at ha
     rcases ha with⟨rfl,hnil⟩|⟨g,c,n,rfl,hg,hn,hr⟩
     ·have:=congrArg List.length hnil
      rw[show v.data.toList.length=v.size by simp,List.length_nil] at this
      omega
     ·have hnk:n=v.size:=by rw[←hn];simp
      subst hnk
      have hlast:v.size - 1<v.size:=by omega
      have hv:=h.vis _ (mem_at hlast)
      have q:wr.cell? ⟨g,v.size - 1,none⟩=some (.int .u8 v[v.size - 1].toNat):=hr.cell (by
       have:v.data.toList[v.size - 1]? = some v[v.size - 1]:=by
        rw[List.getElem?_eq_getElem (by simpa using hlast)]
        rfl
       simp[bc,this])
      have a1:¬ ((v[v.size - 1].toNat:Int)=32):=by omega
      have d1:((v[v.size - 1].toNat:Int)==32)=false:=by simpa using a1
      have hcast:((v.size:Int) - 1)=((v.size - 1:Nat):Int):=by omega
      have hconv:(convert 90 9 (.slice (some ⟨g,0,none⟩) v.size c)).run Tryz.prog wr = .ok (.string v) wr:=conv_body wr g 0 v.size c v rfl fun j x hx=>by
       rw[Nat.zero_add]
       exact hr.cell (by simp[bc,hx])
      have HV2:=hid hv
      have hgt:0<v.size:=h1
      clear hv
      have hb0:decide ((v.size:Int) > 0)=true:=decide_eq_true (by omega)
      have hb1:((v.size:Int)==0)=false:=by
       have:(v.size:Int)≠0:=by omega
       simpa using this
      have hb2:decide ((v.size:Int) > 64)=false:=decide_eq_false (by omega)
      have hcap:=hr.le
      clear hr
      go_wp2_with (fail)
      go_ret2
      exact⟨rfl,fr⟩
theorem kind_name (w : World) : Calls Tryz.prog 296 #[.int .i64 1] w fun e w' => e = .returned (.string (M.bs "name")) ∧ w = w' := by
 go_enter Tryz.func296,Tryz.ntmps296
 go_wp2
 go_ret
 exact⟨by kernel_rfl,rfl⟩
theorem label_plain (w:World):Calls Tryz.prog 295 #[.int .i64 1,.int .i64 0] w fun e w'=>e = .returned (.tuple #[.string ⟨#[]⟩,.bool true])∧w=w':=by
 go_enter Tryz.func295,Tryz.ntmps295
 go_wp2
 go_ret2
 exact⟨rfl,rfl⟩
abbrev fc (v:ByteArray):List Value:=[.int .i64 1,.int .i64 0,.string v]
end Go.Proofs.YtjmkkcckfbnmeaaGreatDoor.Fd
