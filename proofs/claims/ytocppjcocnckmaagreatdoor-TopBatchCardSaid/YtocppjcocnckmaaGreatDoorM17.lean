/- Walks. -/
import Derived.Test.YtocppjcocnckmaaGreatDoorM00
import Derived.Test.YtocppjcocnckmaaGreatDoorM12
import Derived.Test.YtocppjcocnckmaaGreatDoorM14
set_option maxRecDepth 100000
set_option maxHeartbeats 8000000
set_option linter.all false
namespace Go.Proofs.YtocppjcocnckmaaGreatDoor
namespace En
open Go.RowKit Fm Pk
def u8 (x:Int):UInt8:=UInt8.ofNat x.toNat
theorem j8 (x:Int)(h0:0<=x)(h1:x<256):(u8 x).toNat=x.toNat:=by
 unfold u8
 rw[UInt8.toNat_ofNat']
 omega
def jy (k:Int)(s:ByteArray):List UInt8 :=
 [u8 ((s.size:Int) / 65536),u8 ((s.size:Int) / 256),u8 ((s.size:Int) % 256),u8 k]++s.data.toList++[u8 (cK k s.data.toList / 256),u8 (cK k s.data.toList % 256)]
theorem dS (k:Int)(s:ByteArray):(jy k s).length=s.size+6:=by
 simp[jy]
theorem jH (x:Int)(h0:0<=x)(h1:x<256):Value.int .u8 x = .int .u8 ((u8 x).toNat:Int):=by
 rw[j8 x h0 h1]
 congr 1
 omega
theorem mi (k:Int)(s:ByteArray)(h0:0<=k)(h1:k<=255)(hs:s.size<=20000):putCells [] k s=bc (jy k s):=by
 have hr:=fF k s.data.toList
 unfold putCells jy
 rw[jH ((s.size:Int) / 65536) (by omega) (by omega),jH ((s.size:Int) / 256) (by omega) (by omega),jH ((s.size:Int) % 256) (by omega) (by omega),jH k h0 (by omega),jH (cK k s.data.toList / 256) (by omega) (by omega),jH (cK k s.data.toList % 256) (by omega) (by omega),jv]
 simp[bc]
theorem uz (c0 c1 c2 kk d0 d1:UInt8)(body more:List UInt8)(hz:sizeOf3 c0 c1 c2=body.length)(hsm:body.length<=20000) :
  gF (c0::c1::c2::kk::(body++d0::d1::more))=if cK (kk.toNat:Int) body=(d0.toNat:Int)*256+(d1.toNat:Int) then ((kk.toNat:Int),⟨body.toArray⟩,(body.length:Int)+6,0) else (0,ByteArray.empty,0,1):=by
 have h2:¬ ((kk::(body++d0::d1::more)).length+3<body.length+6):=by simp
 have hd:((kk::(body++d0::d1::more)).drop 1).take body.length=body:=by simp
 have g1:(kk::(body++d0::d1::more)).getD (body.length+1) 0=d0:=by simp[List.getD]
 have g2:(kk::(body++d0::d1::more)).getD (body.length+2) 0=d1:=by simp[List.getD,List.getElem?_append_right]
 simp only[gF,hz,show ¬ 20000<body.length by omega,h2,if_false,hd,g1,g2]
 rfl
theorem EF (n:Nat)(h:n<=20000):sizeOf3 (u8 ((n:Int) / 65536)) (u8 ((n:Int) / 256)) (u8 ((n:Int) % 256))=n:=by
 have e1:u8 ((n:Int) / 256)=UInt8.ofNat (n / 256):=by unfold u8;congr 1
 unfold sizeOf3
 rw[j8 _ (by omega) (by omega),j8 ((n:Int) / 256) (by omega) (by omega),j8 _ (by omega) (by omega)]
 omega
theorem xB (k:Int)(s:ByteArray)(more:List UInt8):jy k s++more=u8 ((s.size:Int) / 65536)::u8 ((s.size:Int) / 256)::u8 ((s.size:Int) % 256)::u8 k::(s.data.toList++u8 (cK k s.data.toList / 256)::u8 (cK k s.data.toList % 256)::more):=by
 simp[jy]
theorem wR (k:Int)(l:List UInt8):cK k l=((u8 (cK k l / 256)).toNat:Int)*256+((u8 (cK k l % 256)).toNat:Int):=by
 have:=fF k l
 rw[j8 _ (by omega) (by omega),j8 _ (by omega) (by omega)]
 omega
theorem ly (s:ByteArray):s.data.toList.length=s.size:=by simp
theorem back (k:Int)(s:ByteArray)(more:List UInt8)(h0:0<=k)(h1:k<=255)(hs:s.size<=20000):gF (jy k s++more)=(k,s,(s.size:Int)+6,0):=by
 have hk:((u8 k).toNat:Int)=k:=by rw[j8 k h0 (by omega)];omega
 rw[xB,uz _ _ _ _ _ _ _ _ (by rw[EF _ hs,ly]) (by rw[ly];exact hs),hk,if_pos (wR _ _),ly]
def bit (b:Bool):Int:=if b then 1 else 0
def iM (k v:Int):List UInt8:=[nb k,nb v]
def opB (o:M.Op):List UInt8:=nb (bit o.del)::(txt o.uid++((if o.del then [] else txt o.au)++iM o.ck o.cv))
def dm (q:M.Req):List UInt8 :=
 if q.kind=1 then txt q.aR
 else if q.kind=2∨q.kind=3 then txt q.col
 else if q.kind=4 then txt q.col++txt q.uid++txt q.au++iM q.ck q.cv
 else if q.kind=5 then txt q.col++txt q.uid++iM q.ck q.cv
 else if q.kind=6 then txt q.col++txt q.uid
 else if q.kind=7 then txt q.col++nb q.ops.length::q.ops.flatMap opB
 else if q.kind=8 then txt q.col++ed q.token++[nb q.aD]
 else if q.kind=9 then txt q.col++ed q.token++[nb q.bj]
 else []
def bytesOf (l:List UInt8):ByteArray:=⟨l.toArray⟩
theorem aK (l:List UInt8):(bytesOf l).size=l.length:=by simp[bytesOf,ByteArray.size]
theorem cX (l:List UInt8):(bytesOf l).data.toList=l:=by simp[bytesOf]
theorem fe (a b:List UInt8):bytesOf a++bytesOf b=bytesOf (a++b):=by
 apply ByteArray.ext
 simp[bytesOf]
def bU (q:M.Req):List UInt8:=jy q.kind (bytesOf (dm q))
def ij (i:M.Item):List UInt8:=txt i.uid++(ed i.version++nb (bit i.gone)::txt i.au)
def eu (a:M.aU):List UInt8:=nb a.err::(ed a.token++ed a.version++(txt a.au++(nb a.index::nb (bit a.more)::nb a.items.length::a.items.flatMap ij)))
def bE (a:M.aU):List UInt8:=jy (128+a.kind) (bytesOf (eu a))
end En
