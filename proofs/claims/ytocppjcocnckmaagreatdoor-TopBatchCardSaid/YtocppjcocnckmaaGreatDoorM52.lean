/- Walks. -/
import Derived.Test.YtocppjcocnckmaaGreatDoorM51
import Derived.Test.YtocppjcocnckmaaGreatDoorRows
import Derived.ProofKit
import Derived.OpenShut
import Derived.LaidMore
import Derived.Lay
import Derived.Stop.Joined
import Derived.Shelf.Vars
import Derived.Lib.LaidU8T
import Derived.Lib.LaidTab
set_option maxRecDepth 100000
set_option maxHeartbeats 8000000
set_option linter.all false
namespace Go.Proofs.YtocppjcocnckmaaGreatDoor
open Go.Proofs.Tryz
namespace Lf
open Go.ChangeShapes Go.WideShapes Go.ChangeAt Go.RowKit Go.Shelf
theorem own:ownKnob prog.godebug=none:=by kernel_rfl
theorem laidOut:laidOutB prog=true:=by kernel_rfl
theorem EY:prog.inits.idxOf? 3=none:=by kernel_rfl
noncomputable abbrev W0 (os:Os):World:=World.laidAll prog os Rows.topBatchRow.laid
theorem met (os:Os)(args:Array Value):laidMetH prog Rows.topBatchRow.laid ((W0 os).forCall (λ_ _=>0) ⟨#[],args,[]⟩).memory:=by
 rw[MakeChecks.laidMetH_plain _ _ _ (by kernel_rfl)]
 exact laidMet_laidAll _ (by kernel_rfl) (by kernel_rfl)
section
variable {H:Type} {enc:TypeId × Value->H} {w:World} {sp:Nat->Bool} {held:Bool}
theorem yP {cs:Array Value}{dd:DataW H}{p:List MemPlace}(hz:cs.size=prog.cellsOf 25)(h:DataW.Trod enc prog w 0 sp held 25 (.agg cs) dd p) :
  ∃ c:M.Cfg,cs=Sv.cellsOf c/\c.start<=M.aW:=by
 have hz8:cs.size=8:=hz.trans (by kernel_rfl)
 have c3:prog.cellsOf 3=1:=by kernel_rfl
 have c2:prog.cellsOf 2=1:=by kernel_rfl
 have c23:prog.cellsOf 23=4:=by kernel_rfl
 obtain⟨m,hm⟩:=h
 obtain⟨xs,n,_,_,_,hxl,hf⟩:=DataW.trod_struct underlying25 hm
 obtain⟨l⟩:=cs
 simp only[Value.cells] at hf
 have hl:l.length=8:=by simpa using hz8
 have hxl:xs.length=5:=hxl
 match l,hl with
 | [x0,x1,x2,x3,x4,x5,x6,x7],_ =>
  have f0:=hf 0 _ rfl
  have f1:=hf 1 _ rfl
  have f2:=hf 2 _ rfl
  have f3:=hf 3 _ rfl
  have f4:=hf 4 _ rfl
  clear hf
  simp only[List.getElem_toArray,List.getElem_cons_zero,List.getElem_cons_succ,c3,c2,c23] at f0 f1 f2 f3 f4
  rw[List.getElem?_eq_getElem (by omega)] at f0 f1 f2 f3 f4
  obtain⟨n0,rfl,_⟩:=dT (v:=x0) underlying3 f0
  obtain⟨n1,rfl,w1⟩:=dT (v:=x1) underlying2 f1
  obtain⟨n2,rfl,_⟩:=dT (v:=x2) underlying3 f2
  obtain⟨n3,rfl,_⟩:=dT (v:=x3) underlying3 f3
  have hg:=j0 (cs:=[x4,x5,x6,x7]) underlying23 (by kernel_rfl) f4
  obtain⟨v4,m4,z4,e4,t4⟩:=hg 0 _ rfl (by simp)
  obtain⟨v5,m5,z5,e5,t5⟩:=hg 1 _ rfl (by simp)
  obtain⟨v6,m6,z6,e6,t6⟩:=hg 2 _ rfl (by simp)
  obtain⟨v7,m7,z7,e7,t7⟩:=hg 3 _ rfl (by simp)
  obtain⟨n4,rfl,_⟩:=dT underlying3 t4
  obtain⟨n5,rfl,_⟩:=dT underlying3 t5
  obtain⟨n6,rfl,_⟩:=dT underlying3 t6
  obtain⟨n7,rfl,_⟩:=dT underlying3 t7
  simp at e4 e5 e6 e7
  subst e4 e5 e6 e7
  exact⟨⟨n0,n1,n2,n3,n4,n5,n6,n7⟩,rfl,(uH w1).2⟩
end
theorem Gi {w:World}(hL0:laidMetH prog Rows.topBatchRow.laid w)(hsh:w.ShapedOpen prog):Sh.Gl w:=by
 rw[MakeChecks.laidMetH_plain _ _ _ (by kernel_rfl)] at hL0
 have h10 := Lib.laidMet.reads hL0 (n := "internal/strconv.uint64pow10") (d := Rows.laid_internal_strconv_uint64pow10) (.tail _ (.tail _ (.head _)))
 have h4 := Lib.laidMet.reads hL0 (n := "unicode/utf8.acceptRanges") (d := Rows.laid_unicode_utf8_acceptRanges) (.tail _ (.tail _ (.tail _ (.head _))))
 have h3 := Lib.laidMet.reads hL0 (n := "unicode/utf8.first") (d := Rows.laid_unicode_utf8_first) (.tail _ (.tail _ (.tail _ (.tail _ (.head _)))))
 rw[show (Rows.laid_internal_strconv_uint64pow10:DataW Unit)=Lib.tabData .u64 Lib.pow10Tab by kernel_rfl] at h10
 rw[show (Rows.laid_unicode_utf8_acceptRanges:DataW Unit)=Lib.acceptData by kernel_rfl] at h4
 rw[show Rows.laid_unicode_utf8_first=Lib.firstData by kernel_rfl] at h3
 clear hL0
 refine⟨cell_of_shapedOpen_int (t:=3) (zero:=#[.int .i64 0]) hsh (of_decide_eq_true (by kernel_rfl)) (by kernel_rfl) rfl (by kernel_rfl) (by kernel_rfl) underlying3,utf8Tabs_of_readsT (U8Types.of196 Sh.wg) ⟨by kernel_rfl,by kernel_rfl,by kernel_rfl,by kernel_rfl,by kernel_rfl,by kernel_rfl,by kernel_rfl⟩ h3 h4,?_⟩
 obtain⟨g,t,cs,fuel,p,hg,hty,hvar,hd⟩:=h10
 obtain rfl:=Option.some.inj (Sh.BC.symm.trans hg)
 obtain rfl:=Option.some.inj ((show (prog.globals[3]?).map (·.type)=some 461 by kernel_rfl).symm.trans hty)
 have hcs:=Lib.cells_of_tab underlying461 underlying207 (by kernel_rfl) (by kernel_rfl) hd
 unfold World.var? at hvar
 rw[Sh.BC] at hvar
 simp only[Option.bind_some] at hvar
 split at hvar
 ·next cs' t' s' he =>
  cases hvar
  exact⟨_,_,_,he,by rw[<-hcs]⟩
 cases hvar
theorem A1 (w:World)(a:Option Addr)(l:Nat)(hx:0<l->∃ b off,a=some ⟨b,off,none⟩/\b<w.heap.size/\∀ k,k<l->∃ x y z:Int,w.cell? ⟨b,off+k*3,none⟩=some (.int .i64 x)/\w.cell? ⟨b,off+k*3+1,none⟩=some (.int .i64 y)/\w.cell? ⟨b,off+k*3+2,none⟩=some (.int .i64 z)) :
  ∃ mvs:List M.Move,mvs.length=l/\Tp.Ey w a mvs:=by
 refine⟨(List.range l).map λk=>⟨mN w ⟨mO a,vX a+k*3,none⟩,mN w ⟨mO a,vX a+k*3+1,none⟩,mN w ⟨mO a,vX a+k*3+2,none⟩⟩,by simp,λj m hm=>?_⟩
 have hl:j<l:=by
  have:=(List.getElem?_eq_some_iff.1 hm).1
  simpa using this
 obtain⟨b,off,rfl,hb,hc⟩:=hx (by omega)
 obtain⟨x,y,z,h0,h1,h2⟩:=hc j hl
 refine⟨b,off,rfl,hb,?_⟩
 simp[hl,mO,vX,mN,h0,h1,h2] at hm
 rw[<-hm]
 exact⟨h0,h1,h2⟩
theorem lifted (os:Os)(started:os.Started)(H:Type)(enc:TypeId × Value->H) :
  ReturnsInHanded {} checked os 3 .any (λw args=>(Rows.topBatchSpec.pre enc prog f3 Rows.topBatchRow.domain false w args/\laidMetH prog Rows.topBatchRow.laid w)/\sizedMet enc prog f3 (OpenSpec.ofChange Rows.topBatchSpec) false w args)
   (Rows.topBatchSpec.post enc prog f3 false true false false):=by
 refine returnsInHanded_of_calls (C:=checked) own started EY
  (ChangeSpec.witness_shaped (enc:=enc) (C:=checked) (os:=os) (X:=λw _=>laidMetH prog Rows.topBatchRow.laid w) false (W0 os) #[.agg #[.int .i64 0,.int .i64 0,.int .i64 0,.int .i64 0,.int .i64 0,.int .i64 0,.int .i64 0,.int .i64 0],.slice none 0 0,.bool false] 8 (World.laidAll_os _ _ _)
   (World.shaped_of_ZipB (by kernel_rfl) (by kernel_rfl)) (by kernel_rfl) (by kernel_rfl) (by kernel_rfl) (met os _)) ?_
 intro w tape i _ hsh _ hok hpre _
 obtain⟨_,_,_,fn',hfn',_,_,_,_,hval0⟩:=hok
 obtain rfl:fn'=f3:=Option.some.inj (hfn'.symm.trans func3)
 obtain⟨⟨⟨ds,gs,before,hw,_⟩,hL0⟩,_⟩:=hpre
 have hW:=DataW.Whole.of_heap (w':=w.forCall tape i) (by rfl) hw
 have hL:=laidMetH.of_heap (w':=w.forCall tape i) (by rfl) hL0
 suffices key:Calls prog 3 i.args (w.forCall tape i) λe W'=>∃ v,e = .returned v/\Rows.topBatchSpec.post enc prog f3 false true false false (w.forCall tape i) i.args v W' by
  refine key.mono λe W' ⟨v,he,hp⟩=>?_
  subst he
  exact ChangeSpec.post_blind hp
 clear hw hL0 hfn'
 generalize w.heap.size=base at hval0
 generalize w.forCall tape i=W at *
 generalize i.args=args at *
 have hval:∀ (j:Nat) t v,f3.params[j]? = some t->args[j]? = some v->Value.okWide prog W .any base t v:=hval0
 have hW':=hW
 obtain⟨p,q,hA0,hV,rfl,hfz,hnd⟩:=hW
 have hA:DataW.TrodAll enc prog W 0 (λ_=>true) true f3.params.toList args.toList ds p:=hA0
 rw[params3] at hA hval
 obtain⟨v0,vs0,d0,ds0,p0,q0,hargs,rfl,rfl,h0,r0⟩:=trodAll_cons hA
 obtain⟨v1,vs1,d1,ds1,p1,q1,rfl,rfl,rfl,h1,r1⟩:=trodAll_cons r0
 obtain⟨v2,vs2,d2,ds2,p2,q2,rfl,rfl,rfl,h2,r2⟩:=trodAll_cons r1
 obtain⟨rfl,rfl,rfl⟩:=trodAll_nil r2
 obtain rfl:args=#[v0,v1,v2]:=by cases args;simp_all
 obtain⟨rfl,rfl⟩:=trodVars_none hV
 obtain⟨cs0,rfl,hz0⟩:=okWide_struct underlying25 (hval 0 25 v0 rfl rfl)
 have k0:=h0
 have lt0:∀ x∈p0,x.block<W.heap.size:=by obtain⟨m,hm⟩:=k0;exact DataW.trod_lt m _ _ _ hm
 obtain⟨c,rfl,hcs⟩:=yP hz0 h0
 obtain⟨a1,len1,cap1,rfl⟩:=okWide_slice underlying26 (hval 1 26 v1 rfl rfl)
 obtain⟨hl1,hc1,hm1,s1⟩:=tH (n:=3) underlying26 (by kernel_rfl) (by decide) h1
 have k1:=h1
 have lt1:∀ x∈p1,x.block<W.heap.size:=by obtain⟨m,hm⟩:=k1;exact DataW.trod_lt m _ _ _ hm
 obtain⟨a2,rfl,rfl,rfl⟩:=open_bool underlying4 (hval 2 4 v2 rfl rfl) h2
 clear hA0 hval0
 obtain⟨mvs,hml,hma⟩:=A1 W a1 len1 (λhp=>by
  obtain⟨b,off,rfl,hb,hk⟩:=s1 hp
  refine⟨b,off,rfl,hb,λk hlt=>?_⟩
  obtain⟨cs,m,y,hcl,hcell,ht⟩:=hk k hlt
  have hg:=j0 underlying40 (by kernel_rfl) ht
  obtain⟨u0,m0,z0,e0,t0⟩:=hg 0 _ rfl (by omega)
  obtain⟨u1,m1,z1,e1,t1⟩:=hg 1 _ rfl (by omega)
  obtain⟨u2,m2,z2,e2,t2⟩:=hg 2 _ rfl (by omega)
  obtain⟨n0,rfl,_⟩:=dT underlying3 t0
  obtain⟨n1,rfl,_⟩:=dT underlying3 t1
  obtain⟨n2,rfl,_⟩:=dT underlying3 t2
  have c0:=hcell 0 (by omega)
  have c1:=hcell 1 (by omega)
  have c2:=hcell 2 (by omega)
  rw[e0] at c0
  rw[e1] at c1
  rw[e2] at c2
  exact⟨n0,n1,n2,c0,c1,c2⟩)
 refine(Tp.zd W c a1 len1 cap1 a2 mvs hma hml (Gi hL hsh) hcs).mono λe W' ⟨he,fr⟩=>?_
 subst he
 have bel:=fr.below
 exact⟨_,rfl,_,_,_,[],_,[],hW',trodAll_mk1 (shut_bool underlying4 _),(trodAll_cons_mk (Below.trod laidOut (by kernel_rfl) (of_decide_eq_true (by kernel_rfl)) k0 bel lt0) (trodAll_cons_mk (Below.trod laidOut (by kernel_rfl) (of_decide_eq_true (by kernel_rfl)) k1 bel lt1) (trodAll_cons_mk (shut_bool underlying4 _) trodAll_mk0))),rfl,bel.frame _,λh=>by cases h⟩
end Lf
