/- Walks. -/
import Derived.Test.YtocppjcocnckmaaGreatDoorM19
import Derived.Test.YtocppjcocnckmaaGreatDoorM20
import Derived.BigQuiet
import Derived.Deep.Cut
import Derived.Deep.RegionHeld3
set_option maxRecDepth 100000
set_option maxHeartbeats 8000000
set_option linter.all false
open Go.Lib (hid)
namespace Go.Proofs.YtocppjcocnckmaaGreatDoor
open Go.Proofs.Tryz
namespace Pr
open Go.RowKit Fm Pk
abbrev RT:TypeId:=124
def cu (w:World)(r:Nat)(rest:List UInt8):Prop :=
 ∃ (l:List UInt8) (k:Nat) (a:Option Addr) (c n:Nat),Holds w r RT #[.slice a n c,.int .i64 k,.int .i64 0]/\l.length=n/\n<=100000/\k<=n/\n<=c/\l.drop k=rest/\Cells w a (bc l)
theorem cu.fr {w w':World}{r:Nat}{rest:List UInt8}(h:cu w r rest)(hf:Fr [] w w'):cu w' r rest:=by
 obtain⟨l,k,a,c,n,hp,hn,hn',hk,hc,hd,hr⟩:=h
 exact⟨l,k,a,c,n,hp.fr hf (by simp),hn,hn',hk,hc,hd,hr.fr0 hf⟩
theorem cu.ty {w:World}{r:Nat}{rest:List UInt8}(h:cu w r rest):cB w r=some RT:=by
 obtain⟨l,k,a,c,n,hp,_⟩:=h
 exact hp.ty
theorem jR {w:World}{a:Option Addr}{l:List UInt8}(h:Cells w a (bc l)){p t:Nat}{cs:Array Value}(hp:Holds w p t cs)(hne:∀ (i:Nat) (n:Int),cs[i]?≠some (Value.int .u8 n))(i:Nat)(u:Value):Cells (w.setCell ⟨p,i,none⟩ u) a (bc l):=λj x hx=>by
 obtain⟨b,rfl,hc⟩:=h j x hx
 refine⟨b,rfl,?_⟩
 rw[<-hc]
 have hb:(b.add j).block≠p:=λe=>by
  have hs:=lu hc
  have hx':∃ n,x = .int .u8 n:=by
   simp[bc] at hx
   obtain⟨y,_,rfl⟩:=hx
   exact⟨_,rfl⟩
  obtain⟨n,rfl⟩:=hx'
  have:w.cell? ⟨p,(b.add j).off,none⟩=some (.int .u8 n):=by
   rw[<-hc,<-e]
   congr 1
   cases hb2:b.add j
   rw[hb2] at hs
   simp at hs
   subst hs
   rfl
  rw[hp.cell] at this
  exact hne _ _ this
 exact World.cell?_of_block (w:=w) (Below.heap_setCell w ⟨p,i,none⟩ u _ hb)
theorem iG (w:World)(r b off k c n:Nat)(u:UInt8)(hp:Holds w r RT #[.slice (some ⟨b,off,none⟩) n c,.int .i64 k,.int .i64 0])(hn':n<=100000)(hk:k<n)(hc:w.cell? ⟨b,off+k,none⟩=some (.int .u8 u.toNat))(hu1:u.toNat<=247) :
  Calls prog 92 #[.pointer (some ⟨r,0,none⟩)] w λe w'=>e = .returned (.tuple #[.int .i64 u.toNat,.int .i64 ((k:Int)+1),.int .i64 0])/\∃ m,w'=w.drewN m:=by
 have c0:=hp.cell 0
 have c1:=hp.cell 1
 simp at c0 c1
 have hub:(u.toNat:Int)<=247:=by omega
 have hk1:(k:Int)<(n:Int):=by omega
 have hbl:=block_lt_of_cell hc
 simp only at hbl
 clear hp
 go_enter func92,ntmps92
 go_wp2
 go_quiet (fail)
 go_wp2
 go_quiet (fail)
 go_wp2
 go_quiet (fail)
 go_wp2
 go_ret3
 exact⟨rfl,by simp only[World.drewN_drewN];exact⟨_,rfl⟩⟩
theorem cu.open {w:World}{r:Nat}{u:UInt8}{rest:List UInt8}(h:cu w r (u::rest)):∃ (l:List UInt8) (k b off c n:Nat),Holds w r RT #[.slice (some ⟨b,off,none⟩) n c,.int .i64 k,.int .i64 0]/\l.length=n/\n<=100000/\k<n/\n<=c/\l[k]? = some u/\l.drop (k+1)=rest/\Cells w (some ⟨b,off,none⟩) (bc l):=by
 obtain⟨l,k,a,c,n,hp,hn,hn',hk,hc,hd,hr⟩:=h
 obtain⟨hk1,hu,hd1⟩:=lQ hd
 have h0:0<l.length:=by omega
 obtain⟨b,rfl,hb⟩:=hr 0 (.int .u8 (l[0]'h0).toNat) (by simp[bc,List.getElem?_eq_getElem h0])
 have hs:=lu hb
 obtain⟨bb,bo,bs⟩:=b
 simp[Addr.add] at hs
 subst hs
 exact⟨l,k,bb,bo,c,n,hp,hn,hn',by omega,hc,hu,hd1,hr⟩
theorem pT {a:Option Addr}{n c:Nat}{x y:Int}(i:Nat)(m:Int):(#[Value.slice a n c,.int .i64 x,.int .i64 y]:Array Value)[i]?≠some (Value.int .u8 m):=by
 match i with
 | 0=>simp
 | 1=>simp
 | 2=>simp
 | i+3=>simp
theorem fZ (w:World)(r:Nat)(u:UInt8)(rest:List UInt8)(h:cu w r (u::rest))(hu1:u.toNat<=247) :
  Calls prog 52 #[.pointer (some ⟨r,0,none⟩)] w λe w'=>e = .returned (.int .i64 u.toNat)/\cu w' r rest/\Fr [r] w w':=by
 obtain⟨l,k,b,off,c,n,hp,hn,hn',hk,hcn,hu,hd,hr⟩:=h.open
 have hc:w.cell? ⟨b,off+k,none⟩=some (.int .u8 u.toNat):=hr.at_ (by simp[bc,hu])
 have c2:=hp.cell 2
 simp at c2
 have HL:=hid (iG w r b off k c n u hp hn' hk hc hu1)
 have HP:=hid hp
 have HR:=hid hr
 have HD:=hid (And.intro hn (And.intro hd hu))
 clear hp hr hc hu hd hn h
 go_enter func52,ntmps52
 go_wp2_with fail
 refine HL.mono ?_
 rintro e w1 ⟨rfl,m,rfl⟩
 have p1:=HP.drewN m
 have z1:=p1.frozen 1
 have c1:=p1.cell 1
 have hrl:=p1.lt
 simp at c1
 go_wp2_with fail
 go_ret
 refine⟨rfl,⟨l,k+1,_,c,n,by simpa using p1.set 1 (.int .i64 ((k:Int)+1)),HD.1,hn',by omega,hcn,HD.2.1,?_⟩,(rZ.drewN m).setCell (by simp) _⟩
 exact jR (HR.fr0 (rZ.drewN m)) p1 pT _ _
theorem lx (w:World)(r:Nat)(u:UInt8)(rest:List UInt8)(h:cu w r (u::rest))(hu1:u.toNat<=247) :
  Calls prog 51 #[.pointer (some ⟨r,0,none⟩)] w λe w'=>e = .returned (.int .i64 u.toNat)/\cu w' r rest/\Fr [r] w w':=by
 have HN:=hid (fZ w r u rest h hu1)
 have hub:(u.toNat:Int)<=247:=by omega
 clear h
 go_enter func51,ntmps51
 go_wp2_with fail
 refine HN.mono ?_
 rintro e w1 ⟨rfl,q1,f1⟩
 have Q:=hid q1
 clear q1
 go_wp2_with fail
 go_ret
 exact⟨rfl,Q,f1⟩
theorem cu.err {w:World}{r:Nat}{rest:List UInt8}(h:cu w r rest):w.cell? ⟨r,2,none⟩=some (.int .i64 0)/\r<w.heap.size:=by
 obtain⟨l,k,a,c,n,hp,_⟩:=h
 exact⟨by simpa using hp.cell 2,hp.lt⟩
theorem A9 (w:World)(r:Nat)(b:Bool)(rest:List UInt8)(h:cu w r (nb (En.bit b)::rest)) :
  Calls prog 54 #[.pointer (some ⟨r,0,none⟩)] w λe w'=>e = .returned (.bool b)/\cu w' r rest/\Fr [r] w w':=by
 have hb:((nb (En.bit b)).toNat:Int)=En.bit b:=cd (by cases b<;>simp[En.bit]) (by cases b<;>simp[En.bit])
 have HN:=hid (fZ w r _ rest h (by cases b<;>simp[En.bit] at hb ⊢<;>omega))
 rw[hb] at HN
 clear h hb
 cases b
 all_goals
  simp only[En.bit,if_true,if_false,Bool.false_eq_true] at HN
  go_enter func54,ntmps54
  go_wp2_with fail
  refine HN.mono ?_
  rintro e w1 ⟨rfl,q1,f1⟩
  obtain⟨c2,hrl⟩:=q1.err
  have Q:=hid q1
  clear q1
  go_wp2_with fail
  go_ret
  exact⟨rfl,Q,f1⟩
theorem xh (w:World)(r:Nat)(s:ByteArray)(rest:List UInt8)(h:cu w r (txt s++rest))(hs:s.size<=247)(h0:0<s.size) :
  Calls prog 53 #[.pointer (some ⟨r,0,none⟩),.int .i64 20000] w λe w'=>e = .returned (.string s)/\cu w' r rest/\Fr [r] w w':=by
 obtain⟨l,k,b,off,c,n,hp,hn,hn',hk,hcn,hu,hd,hr⟩:=cu.open (u:=nb s.size) (rest:=s.data.toList++rest) (by simpa[txt] using h)
 have hnb:=cd (n:=s.size) (by omega) (by omega)
 have hnbn:(nb s.size).toNat=s.size:=by omega
 have hc:w.cell? ⟨b,off+k,none⟩=some (.int .u8 (nb s.size).toNat):=hr.at_ (by simp[bc,hu])
 have HL:=hid (iG w r b off k c n (nb s.size) hp hn' hk hc (by omega))
 rw[hnb] at HL
 have hlen:k+1+s.size<=n:=by
  have:=congrArg List.length hd
  simp only[List.length_drop,List.length_append,hn] at this
  have e:s.data.toList.length=s.size:=by simp
  omega
 have hd2:l.drop (k+1+s.size)=rest:=by
  rw[<-List.drop_drop,hd]
  exact List.drop_left' (by simp)
 have hbytes:∀ (j:Nat) (x:UInt8),s.data.toList[j]? = some x->w.cell? ⟨b,off+(k+1)+j,none⟩=some (.int .u8 x.toNat):=λj x hx=>by
  have e:l[k+1+j]? = some x:=by
   rw[<-List.getElem?_drop,hd,List.getElem?_append_left (List.getElem?_eq_some_iff.1 hx).1]
   exact hx
  have:=hr.at_ (j:=k+1+j) (u:=.int .u8 x.toNat) (by simp[bc,e])
  rw[<-this]
  congr 2
  omega
 have c2:=hp.cell 2
 simp at c2
 have c0:=hp.cell 0
 simp at c0
 have hlen2:(s.size:Int)<=(n:Int) - ((k:Int)+1):=by omega
 have hk2:k+1<=k+1+s.size:=by omega
 have hk3:k+1+s.size<=c:=by omega
 have hck:¬ c=k+1:=by omega
 have HP:=hid hp
 have HR:=hid hr
 have HB:=hid hbytes
 have HD:=hid (And.intro hn hd2)
 have hrl:=hp.lt
 clear hp hr hc hu hd hd2 hn h hbytes hnb hnbn
 go_enter func53,ntmps53
 go_wp2_with fail
 refine HL.mono ?_
 rintro e w1 ⟨rfl,m,rfl⟩
 have p1:=HP.drewN m
 have z1:=p1.frozen 1
 have c1:=p1.cell 1
 simp at c1
 go_wp2_with fail
 generalize hW:(w.drewN m).setCell { block:=r,off:=1 } (Value.int IntKind.i64 ((k:Int)+1+s.size))=W
 have hp2:Holds W r RT #[.slice (some ⟨b,off,none⟩) n c,.int .i64 ((k:Int)+1+s.size),.int .i64 0]:=by rw[<-hW];simpa using p1.set 1 (.int .i64 ((k:Int)+1+s.size))
 have hr2:Cells W (some ⟨b,off,none⟩) (bc l):=by rw[<-hW];exact jR (HR.fr0 (rZ.drewN m)) p1 pT _ _
 have fW:Fr [r] w W:=by rw[<-hW];exact(rZ.drewN m).setCell (by simp) _
 have hby2:∀ (j:Nat) (x:UInt8),s.data.toList[j]? = some x->W.cell? ⟨b,off+(k+1)+j,none⟩=some (.int .u8 x.toNat):=λj x hx=>by
  have h0:=HB.out j x hx
  have:b≠r:=λe=>by
   rw[e,HP.cell] at h0
   exact pT _ _ h0
  rw[<-h0]
  exact World.cell?_of_block (w:=w) (fW.block b (block_lt_of_cell h0) (by simpa using this))
 have hconv:∀ (j m' c':Nat),m'=s.size->(convert 69 9 (.slice (some ⟨b,off+(k+1),none⟩) m' c')).run prog (W.drewN j) = .ok (.string s) (W.drewN j):=λj m' c' hm=>cE (W.drewN j) b (off+(k+1)) m' c' s hm.symm hby2
 have d0:=hp2.cell 0
 have d1:=hp2.cell 1
 simp at d0 d1
 have hrl2:=hp2.lt
 clear hW c0 c1 c2
 go_quiet (fail)
 go_wp2
 go_ret
 exact⟨rfl,⟨l,k+1+s.size,_,c,n,by simpa using hp2.drewN _,HD.1,hn',hlen,hcn,HD.2,hr2.fr0 (rZ.drewN _)⟩,fW.drewN _⟩
theorem wE {s:ByteArray}(h:s.size=0):s=⟨#[]⟩:=by
 obtain⟨d⟩:=s
 have:d=#[]:=Array.eq_empty_of_size_eq_zero h
 rw[this]
theorem xi (w:World)(r:Nat)(rest:List UInt8)(h:cu w r (nb 0::rest)) :
  Calls prog 53 #[.pointer (some ⟨r,0,none⟩),.int .i64 20000] w λe w'=>e = .returned (.string ⟨#[]⟩)/\cu w' r rest/\Fr [r] w w':=by
 obtain⟨l,k,b,off,c,n,hp,hn,hn',hk,hcn,hu,hd,hr⟩:=h.open
 have hnb:((nb 0).toNat:Int)=0:=rfl
 have hc:w.cell? ⟨b,off+k,none⟩=some (.int .u8 (nb 0).toNat):=hr.at_ (by simp[bc,hu])
 have HL:=hid (iG w r b off k c n (nb 0) hp hn' hk hc (by decide))
 rw[hnb] at HL
 have c2:=hp.cell 2
 simp at c2
 have c0:=hp.cell 0
 simp at c0
 have hlen2:(0:Int)<=(n:Int) - ((k:Int)+1):=by omega
 have hk3:k+1<=c:=by omega
 have HP:=hid hp
 have HR:=hid hr
 have HD:=hid (And.intro hn hd)
 have hrl:=hp.lt
 clear hp hr hc hu hd hn h hnb
 by_cases hck:c=k+1
 all_goals
  go_enter func53,ntmps53
  go_wp2_with fail
  refine HL.mono ?_
  rintro e w1 ⟨rfl,m,rfl⟩
  have p1:=HP.drewN m
  have z1:=p1.frozen 1
  have c1:=p1.cell 1
  simp at c1
  go_wp2_with fail
  generalize hW:(w.drewN m).setCell { block:=r,off:=1 } (Value.int IntKind.i64 ((k:Int)+1))=W
  have hp2:Holds W r RT #[.slice (some ⟨b,off,none⟩) n c,.int .i64 ((k:Int)+1),.int .i64 0]:=by rw[<-hW];simpa using p1.set 1 (.int .i64 ((k:Int)+1))
  have hr2:Cells W (some ⟨b,off,none⟩) (bc l):=by rw[<-hW];exact jR (HR.fr0 (rZ.drewN m)) p1 pT _ _
  have fW:Fr [r] w W:=by rw[<-hW];exact(rZ.drewN m).setCell (by simp) _
  have hconv:∀ (j o c':Nat),(convert 69 9 (.slice (some ⟨b,o,none⟩) 0 c')).run prog (W.drewN j) = .ok (.string ⟨#[]⟩) (W.drewN j):=λj o c'=>cE (W.drewN j) b o 0 c' ⟨#[]⟩ rfl (by simp)
  have d0:=hp2.cell 0
  have d1:=hp2.cell 1
  simp at d0 d1
  have hrl2:=hp2.lt
  clear hW c0 c1 c2
  go_quiet (fail)
  go_wp2
  go_ret
  exact⟨rfl,⟨l,k+1,_,c,n,by simpa using hp2.drewN _,HD.1,hn',by omega,hcn,HD.2,hr2.fr0 (rZ.drewN _)⟩,fW.drewN _⟩
theorem lz (w:World)(r:Nat)(s:ByteArray)(rest:List UInt8)(h:cu w r (txt s++rest))(hs:s.size<=247) :
  Calls prog 53 #[.pointer (some ⟨r,0,none⟩),.int .i64 20000] w λe w'=>e = .returned (.string s)/\cu w' r rest/\Fr [r] w w':=by
 rcases Nat.eq_zero_or_pos s.size with h0|h0
 ·obtain rfl:=wE h0
  exact xi w r rest (show cu w r (txt (⟨#[]⟩:ByteArray)++rest) from h)
 exact xh w r s rest h hs h0
theorem eV (w:World)(r:Nat)(h:cu w r []) :
  Calls prog 55 #[.pointer (some ⟨r,0,none⟩)] w λe w'=>e = .returned (.int .i64 0)/\∃ n,w'=w.drewN n:=by
 obtain⟨l,k,a,c,n,hp,hn,hn',hk,hc,hd,hr⟩:=h
 have hk2:n<=k:=by
  have:=congrArg List.length hd
  simp[hn] at this
  omega
 obtain rfl:k=n:=by omega
 have c0:=hp.cell 0
 have c1:=hp.cell 1
 clear hd
 go_enter func55,ntmps55
 go_wp2
 go_quiet (fail)
 go_wp2
 go_ret
 exact⟨rfl,_,rfl⟩
open Go.RowKit Fm Pk
abbrev rc0 (a:M.aU):Array Value:=#[.int .i64 a.kind,.int .i64 a.err,.int .i64 a.token,.int .i64 a.version,.string a.au,.int .i64 a.index,.bool a.more,.slice none 0 0]
def r0B (a:M.aU):List UInt8:=[nb a.err]++[nb a.token]++[nb a.version]++txt a.au++[nb a.index]++[nb (En.bit a.more)]++[nb 0]
structure Sm (a:M.aU):Prop where
 k0:0<=a.kind
 k1:a.kind<=11
 e0:0<=a.err
 e1:a.err<=15
 t0:0<=a.token
 t1:a.token<=247
 v0:0<=a.version
 v1:a.version<=247
 c1:a.au.size<=16
 i0:0<=a.index
 i1:a.index<=247
def sm (a:M.aU):Bool:=decide (0<=a.kind/\a.kind<=11/\0<=a.err/\a.err<=15/\0<=a.token/\a.token<=247/\0<=a.version/\a.version<=247/\a.au.size<=16/\0<=a.index/\a.index<=247)
theorem FD {a:M.aU}(h:sm a=true):Sm a:=by
 obtain⟨h1,h2,h3,h4,h5,h6,h7,h8,h9,h10,h11⟩:=of_decide_eq_true h
 exact⟨h1,h2,h3,h4,h5,h6,h7,h8,h9,h10,h11⟩
theorem uf {a:M.aU}(h:a.items=[])(ok:Sm a):En.eu a=r0B a:=by
 have h1:ed a.token=[nb a.token]:=by have:=ok.t1;simp[ed];omega
 have h2:ed a.version=[nb a.version]:=by have:=ok.v1;simp[ed];omega
 simp[En.eu,r0B,h,h1,h2]
theorem pL (a:M.aU)(h:a.au.size<=16):(r0B a).length<=30:=by simp[r0B,txt];omega
theorem Dw (w:World)(a:M.aU)(ok:Sm a) :
  Calls prog 93 #[.agg (rc0 a)] w λe w'=>∃ v,e = .returned v/\BIn w' v (r0B a)/\Fr [] w w':=by
 obtain⟨g,hg⟩:∃ g,w.heap.size=g:=⟨_,rfl⟩
 obtain⟨w0,hw0⟩:∃ w0,w0=w.alloc (.cells (rc0 a) 55):=⟨_,rfl⟩
 have f0:Fr [] w w0:=by rw[hw0];exact rZ.alloc _
 have HB:=hid (show Holds w0 g 55 (rc0 a) by rw[hw0,<-hg];exact Holds.new _ _ _)
 have HC:=hid (λW (f:Fr [] w0 W)=>(show g<W.heap.size/\W.cell? ⟨g,1,none⟩=some (.int .i64 a.err)/\W.cell? ⟨g,2,none⟩=some (.int .i64 a.token)/\W.cell? ⟨g,3,none⟩=some (.int .i64 a.version)/\W.cell? ⟨g,4,none⟩=some (.string a.au)/\W.cell? ⟨g,5,none⟩=some (.int .i64 a.index)/\W.cell? ⟨g,6,none⟩=some (.bool a.more)/\W.cell? ⟨g,7,none⟩=some (.slice none 0 0) from by
  have H:=HB.fr f (by simp)
  exact⟨H.lt,H.cell 1,H.cell 2,H.cell 3,H.cell 4,H.cell 5,H.cell 6,H.cell 7⟩))
 have F0:=hid f0
 have he0:=ok.e0
 have he1:=ok.e1
 have ht0:=ok.t0
 have ht1:=ok.t1
 have hv0:=ok.v0
 have hv1:=ok.v1
 have hc1:=ok.c1
 have hi0:=ok.i0
 have hi1:=ok.i1
 have hb:=Rp.lX a.more
 obtain⟨hgl,c1,c2,c3,c4,c5,c6,c7⟩:=HC.out w0 rZ
 clear f0 ok
 go_enter func93,ntmps93
 go_upto_region 1 with fail
 rw[<-hw0]
 try simp only[hg]
 clear hw0
 have hS:=And.intro c1 (And.intro c2 (And.intro c3 c4))
 go_region_held3 (λw'=>w'.cell? ⟨g,1,none⟩=some (.int .i64 a.err)/\w'.cell? ⟨g,2,none⟩=some (.int .i64 a.token)/\w'.cell? ⟨g,3,none⟩=some (.int .i64 a.version)/\w'.cell? ⟨g,4,none⟩=some (.string a.au)) (first|go_keep|exact hS|(simpa[go_sem] using hS))
  (first
   | (go_at_call 30;refine(aN _ _ _ a.au (o3.bin.fr (by first|exact rZ|exact rZ.drewN _|exact rZ.drew)) (by simp) (by omega)).mono ?_;rintro e w4 ⟨v4,rfl,o4,f4'⟩;have f4:Fr [] w3 w4:=(by first|exact f4'|exact(rZ.drewN _).trans f4'|exact(rZ.drew).trans f4');have X4:Fr [] w0 w4:=X3.trans f4;have hS:=(have H:=HC.out w4 X4;And.intro H.2.1 (And.intro H.2.2.1 (And.intro H.2.2.2.1 H.2.2.2.2.1))))
   | (go_at_call 32;refine(bP _ _ _ a.version (o2.bin.fr (by first|exact rZ|exact rZ.drewN _|exact rZ.drew)) (by simp) hv0 (by omega)).mono ?_;rintro e w3 ⟨v3,rfl,o3,f3'⟩;have f3:Fr [] w2 w3:=(by first|exact f3'|exact(rZ.drewN _).trans f3'|exact(rZ.drew).trans f3');have X3:Fr [] w0 w3:=X2.trans f3;have hS:=(have H:=HC.out w3 X3;And.intro H.2.1 (And.intro H.2.2.1 (And.intro H.2.2.2.1 H.2.2.2.2.1))))
   | (go_at_call 32;refine(bP _ _ _ a.token (o1.bin.fr (by first|exact rZ|exact rZ.drewN _|exact rZ.drew)) (by simp) ht0 (by omega)).mono ?_;rintro e w2 ⟨v2,rfl,o2,f2'⟩;have f2:Fr [] w1 w2:=(by first|exact f2'|exact(rZ.drewN _).trans f2'|exact(rZ.drew).trans f2');have X2:Fr [] w0 w2:=f1.trans f2;have hS:=(have H:=HC.out w2 X2;And.intro H.2.1 (And.intro H.2.2.1 (And.intro H.2.2.2.1 H.2.2.2.2.1))))
   | (go_at_call 32;refine(bP _ _ [] a.err (BIn.nil _) (by simp) he0 (by omega)).mono ?_;rintro e w1 ⟨v1,rfl,o1,f1'⟩;have f1:Fr [] w0 w1:=(by first|exact f1'|exact(rZ.drewN _).trans f1'|exact(rZ.drew).trans f1');have hS:=(have H:=HC.out w1 f1;And.intro H.2.1 (And.intro H.2.2.1 (And.intro H.2.2.2.1 H.2.2.2.2.1)))))
 all_goals
  have HQ:=hid (And.intro (show BIn w4 v4 ([nb a.err]++[nb a.token]++[nb a.version]++txt a.au) by simpa using o4.bin) X4)
  clear hS o1 o2 o3 o4 f1 f2 f3 f4 X2 X3 X4 c1 c2 c3 c4 c5 c6 c7 hgl
  try clear f1'
  try clear f2'
  try clear f3'
  try clear f4'
  obtain⟨hgl,c1,c2,c3,c4,c5,c6,c7⟩:=HC.out w4 HQ.2
  go_upto_region 2 with fail
  have hS:=And.intro c5 (And.intro c6 c7)
  go_region_held3 (λw'=>w'.cell? ⟨g,5,none⟩=some (.int .i64 a.index)/\w'.cell? ⟨g,6,none⟩=some (.bool a.more)/\w'.cell? ⟨g,7,none⟩=some (.slice none 0 0)) (first|go_keep|exact hS|(simpa[go_sem] using hS))
   (first
    | (go_at_call 32;refine(bP _ _ _ 0 (o6.bin.fr (by first|exact rZ|exact rZ.drewN _|exact rZ.drew)) (by simp[txt];omega) (by omega) (by omega)).mono ?_;rintro e w7 ⟨v7,rfl,o7,f7'⟩;have f7:Fr [] w6 w7:=(by first|exact f7'|exact(rZ.drewN _).trans f7'|exact(rZ.drew).trans f7');have X7:Fr [] w4 w7:=X6.trans f7;have hS:=(have H:=HC.out w7 (HQ.2.trans X7);And.intro H.2.2.2.2.2.1 (And.intro H.2.2.2.2.2.2.1 H.2.2.2.2.2.2.2)))
    | (go_at_call 32;refine(bP _ _ _ (En.bit a.more) (o5.bin.fr (by first|exact rZ|exact rZ.drewN _|exact rZ.drew)) (by simp[txt];omega) (by omega) (by omega)).mono ?_;rintro e w6 ⟨v6,rfl,o6,f6'⟩;have f6:Fr [] w5 w6:=(by first|exact f6'|exact(rZ.drewN _).trans f6'|exact(rZ.drew).trans f6');have X6:Fr [] w4 w6:=f5.trans f6;have hS:=(have H:=HC.out w6 (HQ.2.trans X6);And.intro H.2.2.2.2.2.1 (And.intro H.2.2.2.2.2.2.1 H.2.2.2.2.2.2.2)))
    | (go_at_call 32;refine(bP _ _ _ a.index (HQ.1.fr (by first|exact rZ|exact rZ.drewN _|exact rZ.drew)) (by simp[txt];omega) hi0 (by omega)).mono ?_;rintro e w5 ⟨v5,rfl,o5,f5'⟩;have f5:Fr [] w4 w5:=(by first|exact f5'|exact(rZ.drewN _).trans f5'|exact(rZ.drew).trans f5');have hS:=(have H:=HC.out w5 (HQ.2.trans f5);And.intro H.2.2.2.2.2.1 (And.intro H.2.2.2.2.2.2.1 H.2.2.2.2.2.2.2)))
    | (go_at_call 33;refine(jU _ a.more).mono ?_;rintro e w' ⟨rfl,rfl⟩))
  all_goals
   have HQ2:=hid (And.intro o7 X7)
   clear hS o5 o6 o7 f5 f6 f7 X6 X7 c1 c2 c3 c4 c5 c6 c7 hgl
   try clear f5'
   try clear f6'
   try clear f7'
   obtain⟨hgl,c1,c2,c3,c4,c5,c6,c7⟩:=HC.out w7 (HQ.2.trans HQ2.2)
   go_wp2_with fail
   refine wp_loop_rounds 1 ?_
   rw[rounds_succ]
   go_wp2_with fail
   go_ret
   exact⟨_,rfl,by simpa[r0B] using HQ2.1.bin,(F0.trans HQ.2).trans HQ2.2⟩
theorem vk (w:World)(a:M.aU)(ok:Sm a) :
  Calls prog 56 #[.agg (rc0 a)] w λe w'=>e = .returned (.int .i64 0)/\Fr [] w w':=by
 have HL:=hid (λW=>Dw W a ok)
 have hr:=pL a ok.c1
 have hk0:=ok.k0
 have hk1:=ok.k1
 have he0:=ok.e0
 have he1:=ok.e1
 have ht0:=ok.t0
 have hv0:=ok.v0
 have hc1:=ok.c1
 have hi0:=ok.i0
 have hi1:=ok.i1
 obtain⟨ak,ae,at_,av,ac,ai,am,its⟩:=a
 simp only at hk0 hk1 he0 he1 ht0 hv0 hc1 hi0 hi1 hr HL ⊢
 clear ok
 go_enter func56,ntmps56
 go_wp2_with fail
 refine wp_loop_rounds 1 ?_
 rw[rounds_succ]
 go_wp2_with fail
 refine wp_loop_rounds 1 ?_
 rw[rounds_succ]
 go_wp2_with fail
 refine(HL _).mono ?_
 rintro e w2 ⟨v2,rfl,⟨a2,n2,c2,rfl,hn2,hb2⟩,f2⟩
 have hn3:(n2:Int)<=30:=by omega
 clear hb2
 go_wp2_with fail
 go_ret
 exact⟨rfl,(rZ.alloc _).trans f2⟩
open Go.RowKit Fm Pk
structure Dr (w W:World)(ga r:Nat)(cs:List Value)(rest:List UInt8):Prop where
 fr:Fr [] w W
 res:Holds W w.heap.size 55 (rc0 { kind:=0 })
 ab:Holds W ga 55 cs.toArray
 rd:cu W r rest
 l1:w.heap.size<ga
 l2:w.heap.size<=r
section
variable {w W W':World} {ga r:Nat} {cs:List Value} {rest rest':List UInt8}
theorem Dr.call (h:Dr w W ga r cs rest)(hq:cu W' r rest')(hf:Fr [r] W W'):Dr w W' ga r cs rest':=by
 have hn:∀ {g:Nat} {c:Array Value},Holds W g 55 c->g∉[r]:=λhg hm=>by
  simp only[List.mem_cons,List.not_mem_nil,or_false] at hm
  subst hm
  have:=cu.ty h.rd
  rw[hg.ty] at this
  cases this
 exact⟨h.fr.step hf (λy hy=>.inr (by simp at hy;subst hy;exact h.l2)),h.res.fr hf (hn h.res),h.ab.fr hf (hn h.ab),hq,h.l1,h.l2⟩
theorem cu.far (h:cu W r rest){p t:Nat}{c:Array Value}(hp:Holds W p t c)(h1:t≠RT)(h2:∀ (i:Nat) (n:Int),c[i]?≠some (Value.int .u8 n))(i:Nat)(u:Value):cu (W.setCell ⟨p,i,none⟩ u) r rest:=by
 obtain⟨l,k,a,c',n,hb,a1,a2,a3,a4,a5,hr⟩:=h
 exact⟨l,k,a,c',n,hb.far (hb.ne hp (Ne.symm h1)) _,a1,a2,a3,a4,a5,jR hr hp h2 i u⟩
def Ga (v:Value):Bool:=match v with|.int .u8 _=>true|_=>false
theorem Dr.set (h:Dr w W ga r cs rest)(hcs:cs.all (λv=>!Ga v)=true)(i:Nat)(u:Value):Dr w (W.setCell ⟨ga,i,none⟩ u) ga r (cs.set i u) rest:=by
 refine⟨Ev.Fr.aw h.fr (Nat.le_of_lt h.l1) u,h.res.far (Nat.ne_of_lt h.l1) _,by simpa using h.ab.set i u,h.rd.far h.ab (by decide) (λj n hj=>?_) i u,h.l1,h.l2⟩
 have hm:Value.int .u8 n∈cs:=List.mem_of_getElem? (by simpa using hj)
 have:=List.all_eq_true.1 hcs _ hm
 simp[Ga] at this
end
theorem kb (W:World)(tmps:Array Value)(g:Nat)(a:M.aU)(hp:Holds W g 55 (rc0 a))(h4:tmps[4]?.getD undef = .pointer (some ⟨g,0,none⟩))(h5:tmps[5]?.getD undef = .int .i64 0) :
  (results f24 tmps).run prog W = .ok (.tuple #[.agg (rc0 a),.int .i64 0]) W:=by
 have hr:f24.results=#[.cell 4 55,.tmp 5]:=rfl
 obtain⟨q0,q1,q2,q3,q4,q5,q6,q7⟩:=hp.cs8
 simp at q0 q1 q2 q3 q4 q5 q6 q7
 simp[results,h4,h5,go_sem,q0,q1,q2,q3,q4,q5,q6,q7]
open Go.RowKit Fm Pk
theorem CZ (w:World)(a:M.aU)(ok:Sm a)(p:Option Addr)(n c:Nat)(hn:(r0B a).length=n)(hnc:n<=c)(hb:Cells w p (bc (r0B a))) :
  Calls prog 24 #[.int .i64 (128+a.kind),.slice p n c] w λe w'=>e = .returned (.tuple #[.agg (rc0 a),.int .i64 0])/\Fr [] w w':=by
 have hr30:=pL a ok.c1
 obtain⟨N,hN⟩:∃ N,w.heap.size=N:=⟨_,rfl⟩
 obtain⟨W,hW⟩:∃ W,W=((w.alloc (.cells #[.int .i64 0,.int .i64 0,.int .i64 0,.int .i64 0,.string ⟨#[]⟩,.int .i64 0,.bool false,.slice none 0 0] 55)).alloc (.cells #[.slice p n c,.int .i64 0,.int .i64 0] RT)).alloc (.cells #[.int .i64 a.kind,.int .i64 0,.int .i64 0,.int .i64 0,.string ⟨#[]⟩,.int .i64 0,.bool false,.slice none 0 0] 55):=⟨_,rfl⟩
 have D0:Dr w W (N+1+1) (N+1) [.int .i64 a.kind,.int .i64 0,.int .i64 0,.int .i64 0,.string ⟨#[]⟩,.int .i64 0,.bool false,.slice none 0 0] (r0B a):=by
  refine⟨by rw[hW];exact((rZ.alloc _).alloc _).alloc _,by rw[hW];exact((Holds.new w _ _).alloc _).alloc _,by rw[hW];exact aE (by simp[hN]),⟨r0B a,0,p,c,n,by rw[hW];exact(aE (by simp[hN])).alloc _,hn,by omega,Nat.zero_le _,hnc,rfl,by rw[hW];exact hb.fr0 (((rZ.alloc _).alloc _).alloc _)⟩,by omega,by omega⟩
 have hk0:=ok.k0
 have hk1:=ok.k1
 have he0:=ok.e0
 have he1:=ok.e1
 have ht0:=ok.t0
 have ht1:=ok.t1
 have hv0:=ok.v0
 have hv1:=ok.v1
 have hc1:=ok.c1
 have hi0:=ok.i0
 have hi1:=ok.i1
 have ee:=cd he0 (by omega:a.err<=255)
 have et:=cd ht0 (by omega:a.token<=255)
 have ev:=cd hv0 (by omega:a.version<=255)
 have ei:=cd hi0 (by omega:a.index<=255)
 have ez:((nb 0).toNat:Int)=0:=rfl
 have hkk:128+a.kind - 128=a.kind:=by omega
 have HK:=hid (λW=>vk W a ok)
 have HD:=hid D0
 have EE:=hid ee
 have ET:=hid et
 have EV:=hid ev
 have EI:=hid ei
 clear ok hb hn D0 ee et ev ei ez
 go_enter func24,ntmps24
 go_wp2_with fail
 rw[<-hW]
 try simp only[hN]
 clear hW
 have HD:=hid (show Dr w W (N+1+1) (N+1) _ (nb a.err::nb a.token::nb a.version::(txt a.au++nb a.index::nb (En.bit a.more)::nb 0::[])) by simpa[r0B] using HD.out)
 have HN:=hid (lx _ _ (nb a.err) _ HD.rd (by have:=EE.out;omega))
 rw[EE] at HN
 refine HN.mono ?_
 rintro e w1 ⟨rfl,q1,f1⟩
 have HD:=hid (HD.call q1 f1)
 clear HN q1 f1
 have c1:=HD.ab.cell 1
 have z1:=HD.ab.frozen 1
 have hl1:=HD.ab.lt
 simp at c1
 have HD:=hid (HD.set rfl 1 (.int .i64 a.err))
 simp only[List.set] at HD
 go_wp2_with fail
 clear c1 z1 hl1
 have HN:=hid (fZ _ _ (nb a.token) _ HD.rd (by have:=ET.out;omega))
 rw[ET] at HN
 refine HN.mono ?_
 rintro e w2 ⟨rfl,q2,f2⟩
 have HD:=hid (HD.call q2 f2)
 clear HN q2 f2
 have c2:=HD.ab.cell 2
 have z2:=HD.ab.frozen 2
 have hl2:=HD.ab.lt
 simp at c2
 have HD:=hid (HD.set rfl 2 (.int .i64 a.token))
 simp only[List.set] at HD
 go_wp2_with fail
 clear c2 z2 hl2
 have HN:=hid (fZ _ _ (nb a.version) _ HD.rd (by have:=EV.out;omega))
 rw[EV] at HN
 refine HN.mono ?_
 rintro e w3 ⟨rfl,q3,f3⟩
 have HD:=hid (HD.call q3 f3)
 clear HN q3 f3
 have c3:=HD.ab.cell 3
 have z3:=HD.ab.frozen 3
 have hl3:=HD.ab.lt
 simp at c3
 have HD:=hid (HD.set rfl 3 (.int .i64 a.version))
 simp only[List.set] at HD
 go_wp2_with fail
 clear c3 z3 hl3
 have HN:=hid (lz _ _ a.au _ HD.rd (by omega))
 refine HN.mono ?_
 rintro e w4 ⟨rfl,q4,f4⟩
 have HD:=hid (HD.call q4 f4)
 clear HN q4 f4
 have c4:=HD.ab.cell 4
 have z4:=HD.ab.frozen 4
 have hl4:=HD.ab.lt
 simp at c4
 have HD:=hid (HD.set rfl 4 (.string a.au))
 simp only[List.set] at HD
 go_wp2_with fail
 clear c4 z4 hl4
 have HN:=hid (lx _ _ (nb a.index) _ HD.rd (by have:=EI.out;omega))
 rw[EI] at HN
 refine HN.mono ?_
 rintro e w5 ⟨rfl,q5,f5⟩
 have HD:=hid (HD.call q5 f5)
 clear HN q5 f5
 have c5:=HD.ab.cell 5
 have z5:=HD.ab.frozen 5
 have hl5:=HD.ab.lt
 simp at c5
 have HD:=hid (HD.set rfl 5 (.int .i64 a.index))
 simp only[List.set] at HD
 go_wp2_with fail
 clear c5 z5 hl5
 have HN:=hid (A9 _ _ a.more _ HD.rd)
 refine HN.mono ?_
 rintro e w6 ⟨rfl,q6,f6⟩
 have HD:=hid (HD.call q6 f6)
 clear HN q6 f6
 have c6:=HD.ab.cell 6
 have z6:=HD.ab.frozen 6
 have hl6:=HD.ab.lt
 simp at c6
 have HD:=hid (HD.set rfl 6 (.bool a.more))
 simp only[List.set] at HD
 go_wp2_with fail
 clear c6 z6 hl6
 have HN:=hid (lx _ _ (nb 0) _ HD.rd (by decide))
 rw[show ((nb 0).toNat:Int)=0 from rfl] at HN
 refine HN.mono ?_
 rintro e w7 ⟨rfl,q7,f7⟩
 have HD:=hid (HD.call q7 f7)
 clear HN q7 f7
 obtain⟨ce,hrl⟩:=HD.rd.err
 obtain⟨c0,c1,c2,c3,c4,c5,c6,c7⟩:w7.cell? ⟨N+1+1,0,none⟩=some (.int .i64 a.kind)/\w7.cell? ⟨N+1+1,1,none⟩=some (.int .i64 a.err)/\w7.cell? ⟨N+1+1,2,none⟩=some (.int .i64 a.token)/\w7.cell? ⟨N+1+1,3,none⟩=some (.int .i64 a.version)/\w7.cell? ⟨N+1+1,4,none⟩=some (.string a.au)/\w7.cell? ⟨N+1+1,5,none⟩=some (.int .i64 a.index)/\w7.cell? ⟨N+1+1,6,none⟩=some (.bool a.more)/\w7.cell? ⟨N+1+1,7,none⟩=some (.slice none 0 0) :=
  ⟨HD.ab.cell 0,HD.ab.cell 1,HD.ab.cell 2,HD.ab.cell 3,HD.ab.cell 4,HD.ab.cell 5,HD.ab.cell 6,HD.ab.cell 7⟩
 have hla:=HD.ab.lt
 go_wp2_with fail
 refine wp_loop_rounds 1 ?_
 rw[rounds_succ]
 go_wp2_with (go_at_call 55;refine(eV _ _ HD.rd).mono ?_;rintro e w8 ⟨rfl,m8,rfl⟩)
 refine uu (HK _) λw9 f9=>?_
 have F9:=((Fr.refl [] w7).drewN m8).trans f9
 have HD9:=hid (show Holds w9 (N+1+1) 55 (rc0 a)/\Holds w9 N 55 (rc0 { kind:=0 })/\Fr [] w w9 from ⟨HD.ab.fr F9 (by simp),by rw[<-hN];exact HD.res.fr F9 (by simp),HD.fr.trans F9⟩)
 clear c0 c1 c2 c3 c4 c5 c6 c7 ce hrl hla f9 F9
 obtain⟨c0,c1,c2,c3,c4,c5,c6,c7⟩:w9.cell? ⟨N+1+1,0,none⟩=some (.int .i64 a.kind)/\w9.cell? ⟨N+1+1,1,none⟩=some (.int .i64 a.err)/\w9.cell? ⟨N+1+1,2,none⟩=some (.int .i64 a.token)/\w9.cell? ⟨N+1+1,3,none⟩=some (.int .i64 a.version)/\w9.cell? ⟨N+1+1,4,none⟩=some (.string a.au)/\w9.cell? ⟨N+1+1,5,none⟩=some (.int .i64 a.index)/\w9.cell? ⟨N+1+1,6,none⟩=some (.bool a.more)/\w9.cell? ⟨N+1+1,7,none⟩=some (.slice none 0 0) :=
  ⟨HD9.1.cell 0,HD9.1.cell 1,HD9.1.cell 2,HD9.1.cell 3,HD9.1.cell 4,HD9.1.cell 5,HD9.1.cell 6,HD9.1.cell 7⟩
 have hla:=HD9.1.lt
 obtain⟨r0,r1,r2,r3,r4,r5,r6,r7⟩:w9.cell? ⟨N,0,none⟩=some (.int .i64 0)/\w9.cell? ⟨N,1,none⟩=some (.int .i64 0)/\w9.cell? ⟨N,2,none⟩=some (.int .i64 0)/\w9.cell? ⟨N,3,none⟩=some (.int .i64 0)/\w9.cell? ⟨N,4,none⟩=some (.string ⟨#[]⟩)/\w9.cell? ⟨N,5,none⟩=some (.int .i64 0)/\w9.cell? ⟨N,6,none⟩=some (.bool false)/\w9.cell? ⟨N,7,none⟩=some (.slice none 0 0) :=
  ⟨HD9.2.1.cell 0,HD9.2.1.cell 1,HD9.2.1.cell 2,HD9.2.1.cell 3,HD9.2.1.cell 4,HD9.2.1.cell 5,HD9.2.1.cell 6,HD9.2.1.cell 7⟩
 have hfz:∀ i,w9.frozen? ⟨N,i,none⟩=false:=λi=>HD9.2.1.frozen i
 have z0:=hfz 0
 have z1:=hfz 1
 have z2:=hfz 2
 have z3:=hfz 3
 have z4:=hfz 4
 have z5:=hfz 5
 have z6:=hfz 6
 have z7:=hfz 7
 have hrl:=HD9.2.1.lt
 clear hfz
 go_wp2_with fail
 have hh:Holds ((((((((w9.setCell ⟨N,0,none⟩ (.int .i64 a.kind)).setCell ⟨N,1,none⟩ (.int .i64 a.err)).setCell ⟨N,2,none⟩ (.int .i64 a.token)).setCell ⟨N,3,none⟩ (.int .i64 a.version)).setCell ⟨N,4,none⟩ (.string a.au)).setCell ⟨N,5,none⟩ (.int .i64 a.index)).setCell ⟨N,6,none⟩ (.bool a.more)).setCell ⟨N,7,none⟩ (.slice none 0 0)) N 55 (rc0 a):=by
  simpa using (((((((HD9.2.1.set 0 (.int .i64 a.kind)).set 1 (.int .i64 a.err)).set 2 (.int .i64 a.token)).set 3 (.int .i64 a.version)).set 4 (.string a.au)).set 5 (.int .i64 a.index)).set 6 (.bool a.more)).set 7 (.slice none 0 0)
 refine bodyPost_ret (kb _ _ N a hh (by simp) (by simp)) rfl ⟨rfl,?_⟩
 have hf:Fr [N] w9 ((((((((w9.setCell ⟨N,0,none⟩ (.int .i64 a.kind)).setCell ⟨N,1,none⟩ (.int .i64 a.err)).setCell ⟨N,2,none⟩ (.int .i64 a.token)).setCell ⟨N,3,none⟩ (.int .i64 a.version)).setCell ⟨N,4,none⟩ (.string a.au)).setCell ⟨N,5,none⟩ (.int .i64 a.index)).setCell ⟨N,6,none⟩ (.bool a.more)).setCell ⟨N,7,none⟩ (.slice none 0 0)):=(((((((rZ.setCell (by simp) _).setCell (by simp) _).setCell (by simp) _).setCell (by simp) _).setCell (by simp) _).setCell (by simp) _).setCell (by simp) _).setCell (by simp) _
 exact HD9.2.2.step hf (λx hx=>.inr (by simp at hx;omega))
open Go.RowKit Fm Pk
theorem Ec (m:Nat)(h:m<2 ^ 63):bits .and .i64 (m:Int) 255=((m % 256:Nat):Int):=by
 have:=bits_mask .i64 63 (by decide) oE 8 (by decide) (m:Int) (by omega) (by omega)
 simpa using this
theorem oV {w:World}{B e sz n c:Nat}{a:Option Addr}{xs:List Value}(h:Own w B e sz (.slice a n c) n xs):Cells w a xs:=by
 obtain⟨a',c',hv,hc,_⟩:=Ev.Own.cells h
 cases hv
 exact hc
theorem Cj (f m:Nat)(hm:m≠0)(h:m<256 ^ f):∃ f',f=f'+1/\beF f m=beF f' (m / 256)++[UInt8.ofNat (m % 256)]/\m / 256<256 ^ f':=by
 cases f with
 | zero =>
  have:m=0:=by simpa using h
  exact absurd this hm
 | succ f =>
  refine⟨f,rfl,by rw[beF,if_neg hm],?_⟩
  rw[Nat.div_lt_iff_lt_mul (by decide)]
  rw[Nat.pow_succ] at h
  exact h
theorem pS (w:World)(v:Value)(l:List UInt8)(n:Nat)(h:BIn w v l)(hl:l.length<=100000)(h0:247<n)(h1:n<=9223372036854775807) :
  Calls prog 32 #[v,.int .i64 n] w λe w'=>∃ v',e = .returned v'/\ln w w' v' (l++nb (247+((beL n).length:Int))::beL n)/\Fr [] w w':=by
 obtain⟨i5,hi,hz0,hz1,hz2⟩:=info_parts info5
 obtain⟨a,m,c,rfl,hm,hb⟩:=h
 rw[hm] at hl
 have f0:Fr [] w (w.alloc (.cells #[] 5)):=(Fr.refl [] w).alloc _
 have r0:Row (w.alloc (.cells #[] 5)) 5 1 w.heap.size 0 0 []:=Row.new w #[] (by simp) (by decide)
 have hb1:=hb.fr f0 (Nat.le_refl _) (by simp)
 have hn0:¬ (n:Int)<0:=by omega
 have hn1:¬ (n:Int)<248:=by omega
 go_enter func32,ntmps32
 go_wp2_with (at_builtin;(refine af rfl (.tmp 7) (.tmp 8) 69 rfl i5 _ 1 underlying69 hi hz0 hz1 hz2 rfl (by decide) _ _ rfl (Sl.row r0) a m c (bc l) rfl (by simp[eg,hm]) hb1.cells (jh l) (by unfold maxLen;omega) (by omega) ?_;intro v1 w2 own1 hs1 hf1 ho1 hm1;obtain⟨g1,c1,rfl,rfl,hg2,r2⟩:=bV (B:=w.heap.size) hs1 ho1 f0.size (Nat.le_refl _);have f2:Fr [] w w2:=f0.step hf1 (by simp);simp only[Nat.zero_add,List.nil_append] at r2))
 have F2:=hid f2
 have R2:=hid r2
 clear hf1 hs1 ho1 hm1 f2 r2 hb1 hb r0 f0 hn1 hn0
 go_loopw [1,6] (λx o wr=>∃ (f m':Nat) (S:List UInt8),x = .int .i64 m'/\m'<=n/\m'<256 ^ f/\f<=8/\beL n=beF f m'++S/\Own wr w2.heap.size 5 1 o S.length (bc S)/\Fr [] w2 wr) (λx _ _=>(intOf x).toNat)
 case atStart=>exact⟨8,n,[],rfl,Nat.le_refl _,by omega,by omega,by simp[beL],Own.nil _ _ _ _,rZ⟩
 obtain⟨f,m',S,rfl,hmn,hmf,hf8,hbe,ho,fr⟩:=hrel
 have HBe:=hid hbe
 have hS8:S.length<=8:=by
  have h1:=congrArg List.length hbe
  have h2:=jV 8 n
  simp only[beL,List.length_append] at h1
  omega
 obtain⟨oa,oc,rfl⟩:=ho.form
 have HO:=hid ho
 have FR:=hid fr
 clear hbe ho fr
 by_cases hm0:m'=0
 ·subst hm0
  have e:beL n=S:=by rw[HBe,sX,List.nil_append]
  subst e
  have hnb:[Value.int .u8 (247+((beL n).length:Int))]=bc [nb (247+((beL n).length:Int))]:=jT _ (by omega) (by omega)
  have HNB:=hid hnb
  have hw8:IntKind.u8.wrap (247+((beL n).length:Int))=247+((beL n).length:Int):=by rw[IntKind.wrap_u8];omega
  have hwi:IntKind.i64.wrap (247+((beL n).length:Int))=247+((beL n).length:Int):=IntWalk.i64_in _ (by omega)
  have r3:=R2.fr FR (by simp)
  clear hnb
  go_wp2_with (at_builtin;first
   | (refine af rfl (.tmp 30) (.tmp 35) 69 rfl i5 _ 1 underlying69 hi hz0 hz1 hz2 rfl (by decide) _ _ rfl ((Sl.row r3).fr0 ((Fr.refl [] wr).alloc _)) _ 1 1 [.int .u8 (247+((beL n).length:Int))] rfl rfl (Cells.one (Holds.new wr 5 #[.int .u8 (247+((beL n).length:Int))])) (by simp[Value.oneCell']) (by unfold maxLen;omega) (by omega) ?_;intro v4 w4 own4 hs4 hf4 ho4 hm4;obtain⟨g4,c4,rfl,rfl,hg4,r4⟩:=bV (B:=w.heap.size) hs4 ho4 (by have:=(F2.trans FR).size;simp;omega) hg2;have f4:Fr [] w w4:=((F2.trans FR).alloc _).step hf4 (by simpa using hg2);have hL4:=oV (Own.fr (Own.fr0 HO (rZ.alloc _)) hf4 (λg hg hm=>by have h1:=(HO.ty hg).2;have h2:=R2.lt;simp at hm;omega)))
   | (refine af rfl (.tmp 37) (.tmp 38) 69 rfl i5 _ 1 underlying69 hi hz0 hz1 hz2 rfl (by decide) _ _ rfl (Sl.row r4) oa (beL n).length oc (bc (beL n)) rfl (by simp[eg]) hL4 (jh _) (by unfold maxLen;omega) (by omega) ?_;intro v6 w6 own6 hs6 hf6 ho6 hm6;obtain⟨g6,c6,rfl,rfl,hg6,r6⟩:=bV (B:=w.heap.size) hs6 ho6 f4.size hg4;have f6:Fr [] w w6:=f4.step hf6 (by simpa using hg4)))
  go_ret
  rw[HNB,<-cF,<-cF] at r6
  exact⟨_,rfl,⟨g6,c6,_,rfl,hg6,by simp[hm];omega,by simpa using r6⟩,f6⟩
 obtain⟨f',rfl,e1,e2⟩:=Cj f m' hm0 hmf
 have e3:beL n=beF f' (m' / 256)++(UInt8.ofNat (m' % 256)::S):=by rw[HBe,e1];simp
 have E3:=hid e3
 have E2:=hid e2
 have hS7:S.length+1<=8:=by
  have h1:=congrArg List.length e3
  have h2:=jV 8 n
  simp only[beL,List.length_append,List.length_cons] at h1
  omega
 have ha:=Ec m' (by omega)
 have hw8:IntKind.u8.wrap ((m' % 256:Nat):Int)=((m' % 256:Nat):Int):=by rw[IntKind.wrap_u8];omega
 have hbt:[Value.int .u8 ((m' % 256:Nat):Int)]=bc [UInt8.ofNat (m' % 256)]:=by
  simp only[bc,List.map_cons,List.map_nil,UInt8.toNat_ofNat']
  congr 2
  omega
 have HBT:=hid hbt
 obtain⟨b,hb⟩:∃ b:Int,((m' % 256:Nat):Int)=b:=⟨_,rfl⟩
 rw[hb] at ha hw8 HBT
 have r3:Row (wr.alloc (.cells #[.int .u8 b] 5)) 5 1 wr.heap.size 1 1 [.int .u8 b]:=Row.new wr #[.int .u8 b] (by simp) (by decide)
 have hcL2:=oV (Own.fr0 HO (rZ.alloc (.cells #[.int .u8 b] 5)))
 have hpos:decide ((m':Int) > 0)=true:=decide_eq_true (by omega)
 have hsh:(m':Int) / 256=((m' / 256:Nat):Int):=by omega
 clear hbt e1 e2 e3 hb
 go_wp2_with (at_builtin;(refine af rfl (.tmp 27) (.tmp 28) 69 rfl i5 _ 1 underlying69 hi hz0 hz1 hz2 rfl (by decide) _ _ rfl (Sl.row r3) oa S.length oc (bc S) rfl (by simp[eg]) hcL2 (jh _) (by unfold maxLen;omega) (by omega) ?_;intro v4 w4 own4 hs4 hf4 ho4 hm4;obtain⟨g4,c4,rfl,rfl,hg4,r4⟩:=bV (B:=w2.heap.size) hs4 ho4 (by have:=FR.size;simp;omega) FR.size;have f4:Fr [] w2 w4:=(FR.alloc _).step hf4 (by have:=FR.size;simp;omega)))
 rw[HBT,<-cF] at r4
 have R4:=hid r4
 have F4:=hid f4
 have hq:m' / 256<m':=Nat.div_lt_self (by omega) (by decide)
 obtain⟨q,hq'⟩:∃ q,m' / 256=q:=⟨_,rfl⟩
 have HQ:=hid hq'
 rw[hq'] at hsh hq
 clear hs4 hf4 ho4 hm4 r4 f4 r3 hcL2 hq'
 go_wp2_with fail
 go_roundw
 case rel =>
  have e2:=E2.out
  have e3:=E3.out
  rw[HQ] at e2 e3
  refine⟨f',q,UInt8.ofNat (m' % 256)::S,rfl,by omega,e2,by omega,e3,?_,F4⟩
  have hl:(UInt8.ofNat (m' % 256)::S).length=1+S.length:=by simp[Nat.add_comm]
  rw[hl]
  exact .inr ⟨g4,c4,hg4,rfl,R4⟩
 simp[intOf];omega
theorem oK (w:World)(v:Value)(l:List UInt8)(n:Int)(h:BIn w v l)(hl:l.length<=100000)(h0:0<=n)(h1:n<=1099511627791) :
  Calls prog 32 #[v,.int .i64 n] w λe w'=>∃ v',e = .returned v'/\ln w w' v' (l++ed n)/\Fr [] w w':=by
 by_cases h247:n<=247
 ·rw[nL h247]
  exact bP w v l n h hl h0 h247
 obtain⟨N,rfl⟩:=Int.eq_ofNat_of_zero_le h0
 have e:ed (N:Int)=nb (247+((beL N).length:Int))::beL N:=by unfold ed;rw[if_neg h247];simp
 rw[e]
 exact pS w v l N h hl (by omega) (by omega)
end Pr
