/- Texts Enc. -/
import Derived.Test.YtjmkkcckfbnmeaaGreatDoorM00
import Derived.Test.YtjmkkcckfbnmeaaGreatDoorM12
import Derived.Test.YtjmkkcckfbnmeaaGreatDoorM13
set_option maxRecDepth 100000
set_option maxHeartbeats 8000000
set_option linter.all false
namespace Go.Proofs.YtjmkkcckfbnmeaaGreatDoor.En
open Go.RowKit Fm Pk
def u8 (x:Int):UInt8:=UInt8.ofNat x.toNat
theorem u8_nat (x:Int)(h0:0≤x)(h1:x<256):(u8 x).toNat=x.toNat:=by
 unfold u8
 rw[UInt8.toNat_ofNat']
 omega
def putL (k:Int)(s:ByteArray):List UInt8 :=
 [u8 ((s.size:Int) / 65536),u8 ((s.size:Int) / 256),u8 ((s.size:Int) % 256),u8 k]++s.data.toList++[u8 (sumL k s.data.toList / 256),u8 (sumL k s.data.toList % 256)]
theorem putL_length (k:Int)(s:ByteArray):(putL k s).length=s.size+6:=by
 simp[putL]
theorem u8_cell (x:Int)(h0:0≤x)(h1:x<256):Value.int .u8 x = .int .u8 ((u8 x).toNat:Int):=by
 rw[u8_nat x h0 h1]
 congr 1
 omega
theorem putCells_eq (k:Int)(s:ByteArray)(h0:0≤k)(h1:k≤255)(hs:s.size≤20000):putCells [] k s=bc (putL k s):=by
 have hr:=sumL_range k s.data.toList
 unfold putCells putL
 rw[u8_cell ((s.size:Int) / 65536) (by omega) (by omega),u8_cell ((s.size:Int) / 256) (by omega) (by omega),u8_cell ((s.size:Int) % 256) (by omega) (by omega),u8_cell k h0 (by omega),u8_cell (sumL k s.data.toList / 256) (by omega) (by omega),u8_cell (sumL k s.data.toList % 256) (by omega) (by omega),strCells_bc]
 simp[bc]
theorem next_frame (c0 c1 c2 kk d0 d1:UInt8)(body more:List UInt8)(hz:sizeOf3 c0 c1 c2=body.length)(hsm:body.length≤20000) :
  nextL (c0::c1::c2::kk::(body++d0::d1::more))=if sumL (kk.toNat:Int) body=(d0.toNat:Int)*256+(d1.toNat:Int) then ((kk.toNat:Int),⟨body.toArray⟩,(body.length:Int)+6,0) else (0,ByteArray.empty,0,1):=by
 have h2:¬ ((kk::(body++d0::d1::more)).length+3<body.length+6):=by simp
 have hd:((kk::(body++d0::d1::more)).drop 1).take body.length=body:=by simp
 have g1:(kk::(body++d0::d1::more)).getD (body.length+1) 0=d0:=by simp[List.getD]
 have g2:(kk::(body++d0::d1::more)).getD (body.length+2) 0=d1:=by simp[List.getD,List.getElem?_append_right]
 simp only[nextL,hz,show ¬ 20000<body.length by omega,h2,if_false,hd,g1,g2]
 rfl
theorem size_p (n:Nat)(h:n≤20000):sizeOf3 (u8 ((n:Int) / 65536)) (u8 ((n:Int) / 256)) (u8 ((n:Int) % 256))=n:=by
 have e1:u8 ((n:Int) / 256)=UInt8.ofNat (n / 256):=by unfold u8;congr 1
 unfold sizeOf3
 rw[u8_nat _ (by omega) (by omega),u8_nat ((n:Int) / 256) (by omega) (by omega),u8_nat _ (by omega) (by omega)]
 omega
theorem putL_more (k:Int)(s:ByteArray)(more:List UInt8):putL k s++more=u8 ((s.size:Int) / 65536)::u8 ((s.size:Int) / 256)::u8 ((s.size:Int) % 256)::u8 k::(s.data.toList++u8 (sumL k s.data.toList / 256)::u8 (sumL k s.data.toList % 256)::more):=by
 simp[putL]
theorem sum_bytes (k:Int)(l:List UInt8):sumL k l=((u8 (sumL k l / 256)).toNat:Int)*256+((u8 (sumL k l % 256)).toNat:Int):=by
 have:=sumL_range k l
 rw[u8_nat _ (by omega) (by omega),u8_nat _ (by omega) (by omega)]
 omega
theorem size_list (s:ByteArray):s.data.toList.length=s.size:=by simp
theorem back (k:Int)(s:ByteArray)(more:List UInt8)(h0:0≤k)(h1:k≤255)(hs:s.size≤20000):nextL (putL k s++more)=(k,s,(s.size:Int)+6,0):=by
 have hk:((u8 k).toNat:Int)=k:=by rw[u8_nat k h0 (by omega)];omega
 rw[putL_more,next_frame _ _ _ _ _ _ _ _ (by rw[size_p _ hs,size_list]) (by rw[size_list];exact hs),hk,if_pos (sum_bytes _ _),size_list]
def bit (b:Bool):Int:=if b then 1 else 0
def condB (k v:Int):List UInt8:=[nb k,nb v]
def opB (o:M.Op):List UInt8:=nb (bit o.del)::(txt o.uid++((if o.del then [] else txt o.card)++condB o.ck o.cv))
def reqB (q:M.Req):List UInt8 :=
 if q.kind=1 then txt q.tenant
 else if q.kind=2∨q.kind=3 then txt q.col
 else if q.kind=4 then txt q.col++txt q.uid++txt q.card++condB q.ck q.cv
 else if q.kind=5 then txt q.col++txt q.uid++condB q.ck q.cv
 else if q.kind=6 then txt q.col++txt q.uid
 else if q.kind=7 then txt q.col++nb q.ops.length::q.ops.flatMap opB
 else if q.kind=8 then txt q.col++[nb q.token,nb q.most]
 else if q.kind=9 then txt q.col++[nb q.token,nb q.ticks]
 else []
def bytesOf (l:List UInt8):ByteArray:=⟨l.toArray⟩
theorem bytesOf_size (l:List UInt8):(bytesOf l).size=l.length:=by simp[bytesOf,ByteArray.size]
theorem bytesOf_list (l:List UInt8):(bytesOf l).data.toList=l:=by simp[bytesOf]
theorem bytesOf_append (a b:List UInt8):bytesOf a++bytesOf b=bytesOf (a++b):=by
 apply ByteArray.ext
 simp[bytesOf]
def reqF (q:M.Req):List UInt8:=putL q.kind (bytesOf (reqB q))
def itemB (i:M.Item):List UInt8:=txt i.uid++(nb i.version::nb (bit i.gone)::txt i.card)
def respB (a:M.Resp):List UInt8:=nb a.err::nb a.token::nb a.version::(txt a.card++(nb a.index::nb (bit a.more)::nb a.items.length::a.items.flatMap itemB))
def respF (a:M.Resp):List UInt8:=putL (128+a.kind) (bytesOf (respB a))
end Go.Proofs.YtjmkkcckfbnmeaaGreatDoor.En
