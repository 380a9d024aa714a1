/- Texts CardW, RefA, RefB, RefC. -/
import Derived.Test.YtjmkkcckfbnmeaaGreatDoorM23
import Derived.Test.YtjmkkcckfbnmeaaGreatDoorM24
import Derived.Test.YtjmkkcckfbnmeaaGreatDoorM27
import Derived.Deep.RegionLaw
import Derived.Deep.RegionHeld3
set_option maxRecDepth 100000
set_option maxHeartbeats 8000000
set_option linter.all false
open Go.Lib (hid)
namespace Go.Proofs.YtjmkkcckfbnmeaaGreatDoor.Fd
open Go.RowKit Fm Ct
theorem infoF:(Tryz.prog.info? 273).map (fun i=>(i.zero,i.size,i.bytes))=some (some (.agg #[.int .i64 0,.int .i64 0,.string ByteArray.empty]),3,32):=by kernel_rfl
def cardOf (v:ByteArray):ByteArray:=lineOf v++⟨#[10]⟩
theorem cardOf_list (v:ByteArray):(cardOf v).data.toList=(lineOf v).data.toList++10::(⟨#[]⟩:ByteArray).data.toList:=by simp[cardOf]
theorem cardOf_size (v:ByteArray):(cardOf v).size=6+v.size:=by
 have:=congrArg List.length (cardOf_list v)
 have h:=lineOf_size v
 simp at this
 omega
theorem no_end {v:ByteArray}(h:Plain v):(10:UInt8)∉(lineOf v).data.toList:=by
 rw[lineOf_list,nmB_list]
 intro hm
 simp only[List.cons_append,List.nil_append,List.mem_cons] at hm
 rcases hm with h'|h'|h'|h'|h'|h'
 ·exact absurd h' (by decide)
 ·exact absurd h' (by decide)
 ·exact absurd h' (by decide)
 ·exact absurd h' (by decide)
 ·exact absurd h' (by decide)
 ·have:=h.vis _ h'
  simp at this
theorem fc_one (v:ByteArray):∀ u∈fc v,u.oneCell'=true:=by
 intro u hu
 simp only[List.mem_cons,List.not_mem_nil,or_false] at hu
 rcases hu with rfl|rfl|rfl<;>rfl
theorem fresh_b (w:World)(b B:Nat)(hB:B≤b)(h:Holds w b Bd.TB #[.pointer none,.slice none 0 0]):Lib.IsBuilder Bd.TB Bd.T8 B b [] w :=
 .inl ⟨hB,_,h,⟨rfl,.inl ⟨rfl,rfl⟩⟩,by simp[Value.ownBlock]⟩
abbrev One (w:World)(g c:Nat)(v:ByteArray):Prop:=Row w 273 3 g 1 c (fc v)
theorem one_cells {w:World}{g c:Nat}{v:ByteArray}(h:One w g c v):w.cell? ⟨g,0,none⟩=some (.int .i64 1)∧w.cell? ⟨g,1,none⟩=some (.int .i64 0)∧w.cell? ⟨g,2,none⟩=some (.string v):=⟨h.cell rfl,h.cell rfl,h.cell rfl⟩
theorem text_any (v:ByteArray)(w:World)(g c:Nat)(h:Plain v)(hr:One w g c v) :
  Calls Tryz.prog 299 #[.slice (some ⟨g,0,none⟩) 1 c] w fun e w'=>e = .returned (.string (cardOf v))∧Fr [] w w':=by
 have hls:=lineOf_size v
 have hz:=h.s2
 have hgl:=hr.lt
 obtain⟨q0,q1,q2⟩:=one_cells hr
 have b1:=Holds.new w Bd.TB #[.pointer none,.slice none 0 0]
 have f1:Fr [] w (w.alloc (.cells #[.pointer none,.slice none 0 0] Bd.TB)):=(Fr.refl _ _).alloc _
 have HL:=hid (fun W=>line_any v W h)
 have hlist:=cardOf_list v
 obtain⟨s,hs⟩:∃ s,lineOf v=s:=⟨_,rfl⟩
 have HC:=hid hlist
 rw[hs] at HL hls HC
 clear hlist hs hr
 go_enter Tryz.func299,Tryz.ntmps299
 go_wp2_with (fail)
 refine wp_loop_rounds 2 ?_
 rw[rounds_succ]
 go_wp2_with (fail)
 refine(HL.out _).mono ?_
 rintro e w2 ⟨rfl,f2⟩
 have f3:=((Fr.refl [] (w.alloc (.cells #[.pointer none,.slice none 0 0] Bd.TB))).alloc (.cells (fc v).toArray 273)).trans f2
 have b3:=b1.fr f3 (by simp)
 have hsz:=(f1.trans f3).size
 go_wp2_with (fail)
 refine(Bd.string_any w.heap.size w.heap.size [] s w2 (fresh_b _ _ _ (Nat.le_refl _) b3) (by simp;omega) hsz).mono ?_
 rintro e w4 ⟨rfl,b4,h4⟩
 go_wp2_with (fail)
 refine(Bd.byte_any w.heap.size w.heap.size _ 10 w4 (.inr b4) (by simp[Lib.strCells_length];omega) (Nat.le_trans hsz h4.size)).mono ?_
 rintro e w5 ⟨rfl,b5,h5⟩
 have hbc:([]++Lib.strCells s++[Value.int .u8 10])=Lib.byteCells (s.data.toList++[10]):=by simp[Lib.strCells,Lib.byteCells]
 rw[hbc] at b5
 have HB:=hid b5
 clear b3 b4 b5 hbc q0 q1 q2
 go_wp2_with (fail)
 rw[rounds_succ]
 go_wp2_with (fail)
 refine(Bd.str_any w.heap.size w.heap.size _ w5 (.inr HB.out) (by simp)).mono ?_
 rintro e w6 ⟨rfl,h6⟩
 go_wp2_with (fail)
 go_ret
 exact⟨ret_str (ba_ext (by rw[HC.out])),Fr.of_below ((f1.trans f3).below.trans (h4.trans (h5.trans h6)))⟩
theorem compact_one (w:World)(a:Option Addr)(c:Nat):Calls Tryz.prog 329 #[.slice a 1 c] w fun e w'=>e = .returned (.slice a 1 c)∧w=w':=by
 go_enter Tryz.func329,Tryz.ntmps329
 go_wp2
 go_ret
 exact⟨rfl,rfl⟩
theorem ccanon_any (v:ByteArray)(w:World)(g c:Nat)(h:Plain v)(hr:One w g c v) :
  Calls Tryz.prog 298 #[.slice (some ⟨g,0,none⟩) 1 c] w fun e w'=>∃ g' c',e = .returned (.tuple #[.slice (some ⟨g',0,none⟩) 1 c',.int .i64 0])∧One w' g' c' v∧w.heap.size≤g'∧Fr [] w w':=by
 obtain⟨i5,hi,hz0,hz1,hz2⟩:=info_parts infoF
 have hz:=h.s2
 have hgl:=hr.lt
 obtain⟨q0,q1,q2⟩:=one_cells hr
 have hcs:=cardOf_size v
 have HC:=hid (fun W=>canon_any v W h)
 have HT:=hid (fun W g c (hr:One W g c v)=>text_any v W g c h hr)
 obtain⟨s,hs⟩:∃ s,cardOf v=s:=⟨_,rfl⟩
 rw[hs] at HT hcs
 clear hr hs
 go_enter Tryz.func298,Tryz.ntmps298
 go_wp2_with (fail)
 refine wp_loop_rounds 2 ?_
 rw[rounds_succ]
 go_wp2_with (fail)
 refine(HC.out _).mono ?_
 rintro e w2 ⟨rfl,f2⟩
 have f3:Fr [] w w2:=((Fr.refl [] w).alloc _).trans f2
 clear q0 q1 q2
 go_wp2_with (at_builtin;(refine wpList_append_sl rfl (.tmp 26) (.tmp 28) 208 rfl i5 _ 32 Tryz.underlying208 hi hz0 hz1 hz2 rfl (by decide) _ _ rfl (Sl.nil _ _ _) _ 1 1 (fc v) rfl rfl (Cells.of_holds (at_new (t:=273) (cs:=(fc v).toArray) (by simp))) (fc_one v) (by unfold maxLen;omega) (by omega) ?_;intro v3 w3 own3 hs3 hf3 ho3 hm3;obtain⟨g3,c3,rfl,rfl,hg3,r3⟩:=got_row (B:=w.heap.size) hs3 ho3 (by have:=f3.size;simp;omega) (by simp) (hm3 (by omega));simp only[Nat.zero_add,List.nil_append] at r3))
 have f4:Fr [] w w3:=((f3.alloc _).alloc _).step hf3 (by simp)
 go_wp2_with (fail)
 rw[rounds_succ]
 go_wp2_with (fail)
 refine(So.fsort_one w3 _ c3 _).mono ?_
 rintro e w' ⟨rfl,rfl⟩
 go_wp2_with (fail)
 refine(compact_one w3 _ c3).mono ?_
 rintro e w' ⟨rfl,rfl⟩
 have hg3l:=r3.lt
 obtain⟨q0,q1,q2⟩:=one_cells r3
 go_wp2_with (fail)
 refine wp_loop_rounds 2 ?_
 rw[rounds_succ]
 go_wp2_with (fail)
 rw[rounds_succ]
 go_wp2_with (fail)
 have f5:Fr [] w3 ((w3.alloc (.cells #[.int .i64 0,.int .i64 1,.int .i64 0,.int .i64 0,.int .i64 0,.int .i64 0,.int .i64 0] 353)).alloc (.cells (fc v).toArray 273)):=((Fr.refl _ _).alloc _).alloc _
 have r5:=r3.fr f5 (by simp)
 refine(HT.out _ g3 c3 r5).mono ?_
 rintro e w6 ⟨rfl,f6⟩
 have r6:=r5.fr f6 (by simp)
 have hsz:(s.size:Int)≤13:=by omega
 clear q0 q1 q2 r3 r5
 go_wp2_with (fail)
 go_ret2
 exact⟨g3,c3,rfl,r6,hg3,(f4.trans f5).trans f6⟩
theorem ctext_any (v:ByteArray)(w:World)(g c:Nat)(h:Plain v)(hr:One w g c v) :
  Calls Tryz.prog 258 #[.slice (some ⟨g,0,none⟩) 1 c] w fun e w'=>e = .returned (.tuple #[.string (cardOf v),.int .i64 0])∧Fr [] w w':=by
 have HC:=hid (ccanon_any v w g c h hr)
 have HT:=hid (fun W g c (hr:One W g c v)=>text_any v W g c h hr)
 clear hr
 go_enter Tryz.func258,Tryz.ntmps258
 go_wp2_with (fail)
 refine HC.out.mono ?_
 rintro e w2 ⟨g',c',rfl,r2,hg,f2⟩
 go_wp2_with (fail)
 refine(HT.out _ g' c' r2).mono ?_
 rintro e w3 ⟨rfl,f3⟩
 go_wp2_with (fail)
 go_ret2
 exact⟨rfl,f2.trans f3⟩
theorem cparse_any (v:ByteArray)(w:World)(h:Plain v) :
  Calls Tryz.prog 228 #[.string (cardOf v)] w fun e w'=>∃ vl,e = .returned (.tuple #[vl,.int .i64 0])∧Fr [] w w':=by
 obtain⟨i5,hi,hz0,hz1,hz2⟩:=info_parts infoF
 have hcs:=cardOf_size v
 have hz:=h.s2
 have HC:=hid (fun W=>cut_any (cardOf v) ⟨#[10]⟩ (lineOf v) ⟨#[]⟩ W rfl (cardOf_list v) (no_end h) (by omega) (by omega))
 have HP:=hid (fun W=>parse_any v W h)
 have HT:=hid (fun W g c (hr:One W g c v)=>ctext_any v W g c h hr)
 have hne:((cardOf v).toList).isEmpty=false:=by
  rw[Lib.toList_data]
  have:=cardOf_list v
  rw[this]
  simp
 obtain⟨s,hs⟩:∃ s,cardOf v=s:=⟨_,rfl⟩
 rw[hs] at HT HC hcs hne ⊢
 clear hs
 go_enter Tryz.func228,Tryz.ntmps228
 go_wp2_with (fail)
 refine wp_loop_rounds 2 ?_
 rw[rounds_succ]
 go_wp2_with (fail)
 refine(HC.out _).mono ?_
 rintro e w2 ⟨rfl,f2⟩
 go_wp2_with (fail)
 refine(HP.out _).mono ?_
 rintro e w3 ⟨rfl,f3⟩
 have f4:=f2.trans f3
 go_wp2_with (at_builtin;(refine wpList_append_sl rfl (.tmp 36) (.tmp 38) 208 rfl i5 _ 32 Tryz.underlying208 hi hz0 hz1 hz2 rfl (by decide) _ _ rfl (Sl.nil _ _ _) _ 1 1 (fc v) rfl rfl (Cells.of_holds (at_new (t:=273) (cs:=(fc v).toArray) (by simp))) (fc_one v) (by unfold maxLen;omega) (by omega) ?_;intro v5 w5 own5 hs5 hf5 ho5 hm5;obtain⟨g5,c5,rfl,rfl,hg5,r5⟩:=got_row (B:=w.heap.size) hs5 ho5 (by have:=f4.size;simp;omega) (by simp) (hm5 (by omega));simp only[Nat.zero_add,List.nil_append] at r5))
 have f5:Fr [] w w5:=((f4.alloc _).alloc _).step hf5 (by simp)
 rw[rounds_succ]
 go_wp2_with (fail)
 refine(HT.out _ g5 c5 r5).mono ?_
 rintro e w6 ⟨rfl,f6⟩
 clear r5
 go_wp2_with (fail)
 go_ret2
 exact⟨_,rfl,f5.trans f6⟩
theorem cis_any (v:ByteArray)(w:World)(h:Plain v) :
  Calls Tryz.prog 193 #[.string (cardOf v)] w fun e w'=>e = .returned (.bool true)∧Fr [] w w':=by
 have HP:=hid (cparse_any v w h)
 generalize cardOf v=s at *
 go_enter Tryz.func193,Tryz.ntmps193
 go_wp2_with (fail)
 refine HP.out.mono ?_
 rintro e w2 ⟨vl,rfl,f2⟩
 go_wp2_with (fail)
 go_ret
 exact⟨rfl,f2⟩
theorem plain_ann : Plain (M.bs "Ann") := ⟨by decide +kernel, by decide +kernel, by decide +kernel⟩
theorem plain_bob : Plain (M.bs "Bob") := ⟨by decide +kernel, by decide +kernel, by decide +kernel⟩
theorem plain_cy : Plain (M.bs "Cy") := ⟨by decide +kernel, by decide +kernel, by decide +kernel⟩
theorem card3_cases {s:ByteArray}(h:M.card3 s=true):∃ v,Plain v∧s=cardOf v:=by
 simp only[M.card3,Bool.or_eq_true,decide_eq_true_eq] at h
 rcases h with(h|h)|h
 ·exact⟨_,plain_ann,by rw[h];decide +kernel⟩
 ·exact⟨_,plain_bob,by rw[h];decide +kernel⟩
 ·exact⟨_,plain_cy,by rw[h];decide +kernel⟩
theorem is_any (s:ByteArray)(w:World)(h:M.card3 s=true) :
  Calls Tryz.prog 193 #[.string s] w fun e w'=>e = .returned (.bool true)∧Fr [] w w':=by
 obtain⟨v,hv,rfl⟩:=card3_cases h
 exact cis_any v w hv
end Go.Proofs.YtjmkkcckfbnmeaaGreatDoor.Fd
namespace Go.Proofs.YtjmkkcckfbnmeaaGreatDoor.Rf
open Go.RowKit Fm Ct Fd
theorem sign_any (s:ByteArray)(k:Nat)(w:World)(hk:k<s.size)(hs:s.size≤1000)(h:(s[k]'hk).toNat<128) :
  Calls Tryz.prog 322 #[.string s,.int .i64 k] w fun e w'=>e = .returned (.int .i64 1)∧w=w':=by
 have hk1:(k:Int)<(s.size:Int):=by omega
 have d:decide (((s[k]'hk).toNat:Int)<128)=true:=decide_eq_true (by omega)
 go_enter Tryz.func322,Tryz.ntmps322
 go_wp2_with (fail)
 go_ret
 exact⟨rfl,rfl⟩
theorem clean_any (v:ByteArray)(w:World)(h:Plain v) :
  Calls Tryz.prog 290 #[.string v] w fun e w'=>e = .returned (.tuple #[.string v,.int .i64 0])∧Fr [] w w':=by
 obtain⟨i5,hi,hz0,hz1,hz2⟩:=info_parts info5
 have h1:=h.s1
 have h2:=h.s2
 go_enter Tryz.func290,Tryz.ntmps290
 go_wp2_with (fail)
 go_loop [4] (fun i=>∃ k:Nat,k≤v.size∧i = .int .i64 k) (fun i=>v.size - (intOf i).toNat)
 case atStart=>exact⟨0,Nat.zero_le _,rfl⟩
 case round =>
  obtain⟨k,hk,rfl⟩:=hrel
  by_cases hlt:k<v.size
  ·have hv:=h.vis _ (mem_at hlt)
   have a1:¬ ((v[k].toNat:Int)<32):=by omega
   have a2:¬ ((v[k].toNat:Int)=127):=by omega
   have d1:decide ((v[k].toNat:Int)<32)=false:=decide_eq_false a1
   have d2:((v[k].toNat:Int)==127)=false:=by simpa using a2
   have HS:=hid (sign_any v k w hlt (by omega) (by omega))
   go_wp2_with (fail)
   refine HS.out.mono ?_
   rintro e w' ⟨rfl,rfl⟩
   go_wp2_with (fail)
   go_round
   case rel=>exact⟨k+1,by omega,by go_num⟩
   case measure=>simp[intOf];omega
  ·obtain rfl:k=v.size:=by omega
   go_wp2_with (fail)
   go_loopw [6,7] (fun o i wr=>∃ k:Nat,k≤v.size∧i = .int .i64 k∧Acc w wr o (v.data.toList.take k)∧Fr [] w wr) (fun _ i _=>v.size - (intOf i).toNat)
   case atStart=>exact⟨0,Nat.zero_le _,rfl,.inl ⟨rfl,rfl⟩,Fr.refl _ _⟩
   case round =>
    obtain⟨k,hk,rfl,ha,fr⟩:=hrel
    by_cases hlt:k<v.size
    ·have hv:=h.vis _ (mem_at hlt)
     have a1:¬ ((v[k].toNat:Int)=32):=by omega
     have d1:((v[k].toNat:Int)==32)=false:=by simpa using a1
     have hcell:[Value.int .u8 v[k].toNat]=bc [v[k]]:=by simp[bc]
     have HC:=hid hcell
     clear hcell
     have HT:=hid (take_snoc v k hlt)
     have hln:(v.data.toList.take k).length=k:=by simp;omega
     rcases ha with⟨rfl,hnil⟩|⟨g,c,n,rfl,hg,hn,hr⟩
     ·have hk0:k=0:=by
       rw[hnil] at hln
       simpa using hln.symm
      subst hk0
      go_wp2_with (at_builtin;(refine wpList_append_sl rfl (.tmp 56) (.tmp 60) 90 rfl i5 _ 1 Tryz.underlying90 hi hz0 hz1 hz2 rfl (by decide) _ _ rfl (Sl.nil _ _ _) _ 1 1 [.int .u8 v[0].toNat] rfl rfl (Cells.one (Holds.new wr 5 #[.int .u8 v[0].toNat])) (by simp[Value.oneCell']) (by unfold maxLen;omega) (by omega) ?_;intro v3 w3 own3 hs3 hf3 ho3 hm3;obtain⟨g3,c3,rfl,rfl,hg3,r3⟩:=got_row (B:=w.heap.size) hs3 ho3 (by have:=fr.size;simp;omega) (by simp) (hm3 (by omega))))
      go_roundw
      case rel=>exact⟨1,by omega,rfl,.inr ⟨g3,c3,1,rfl,hg3,by simp;omega,by rw[HT.out,List.take_zero,List.nil_append,←HC.out];simpa using r3⟩,(fr.alloc _).step hf3 (by simp)⟩
      case measure=>simp[intOf];omega
     ·have hnk:n=k:=by rw[←hn,hln]
      subst hnk
      go_wp2_with (at_builtin;(refine wpList_append_sl rfl (.tmp 56) (.tmp 60) 90 rfl i5 _ 1 Tryz.underlying90 hi hz0 hz1 hz2 rfl (by decide) _ _ rfl ((Sl.row hr).fr0 ((Fr.refl [] wr).alloc _)) _ 1 1 [.int .u8 v[n].toNat] rfl rfl (Cells.one (Holds.new wr 5 #[.int .u8 v[n].toNat])) (by simp[Value.oneCell']) (by unfold maxLen;omega) (by omega) ?_;intro v3 w3 own3 hs3 hf3 ho3 hm3;obtain⟨g3,c3,rfl,rfl,hg3,r3⟩:=got_some (B:=w.heap.size) hs3 ho3 (by have:=fr.size;simp;omega) hg))
      go_roundw
      case rel=>exact⟨n+1,by omega,by go_num,.inr ⟨g3,c3,n+1,rfl,hg3,by simp;omega,by rw[HT.out,bc_append,←HC.out];exact r3⟩,(fr.alloc _).step hf3 (by simpa using hg)⟩
      case measure=>simp[intOf];omega
    ·obtain rfl:k=v.size:=by omega
     have ht:v.data.toList.take v.size=v.data.toList:=List.take_of_length_le (by simp)
     rw[ht] at ha
     rcases ha with⟨rfl,hnil⟩|⟨g,c,n,rfl,hg,hn,hr⟩
     ·have:=congrArg List.length hnil
      rw[show v.data.toList.length=v.size by simp,List.length_nil] at this
      omega
     ·have hnk:n=v.size:=by rw[←hn];simp
      subst hnk
      have hlast:v.size - 1<v.size:=by omega
      have hv:=h.vis _ (mem_at hlast)
      have q:wr.cell? ⟨g,v.size - 1,none⟩=some (.int .u8 v[v.size - 1].toNat):=hr.cell (by
       have:v.data.toList[v.size - 1]? = some v[v.size - 1]:=by
        rw[List.getElem?_eq_getElem (by simpa using hlast)]
        rfl
       simp[bc,this])
      have a1:¬ ((v[v.size - 1].toNat:Int)=32):=by omega
      have d1:((v[v.size - 1].toNat:Int)==32)=false:=by simpa using a1
      have hcast:((v.size:Int) - 1)=((v.size - 1:Nat):Int):=by omega
      have hconv:(convert 90 9 (.slice (some ⟨g,0,none⟩) v.size c)).run Tryz.prog wr = .ok (.string v) wr:=conv_body wr g 0 v.size c v rfl fun j x hx=>by
       rw[Nat.zero_add]
       exact hr.cell (by simp[bc,hx])
      have HV2:=hid hv
      have hgt:0<v.size:=h1
      clear hv
      have hb0:decide ((v.size:Int) > 0)=true:=decide_eq_true (by omega)
      have hb1:((v.size:Int)==0)=false:=by
       have:(v.size:Int)≠0:=by omega
       simpa using this
      have hb2:decide ((v.size:Int) > 64)=false:=decide_eq_false (by omega)
      have hcap:=hr.le
      clear hr
      go_wp2_with (fail)
      go_ret2
      exact⟨rfl,fr⟩
theorem ret_canon (W:World)(tmps:Array Value)(g:Nat)(v:ByteArray)(vb:Value)(hp:Holds W g 273 (fc v).toArray)(h2:tmps[2]?.getD undef = .pointer (some ⟨g,0,none⟩))(h3:tmps[3]?.getD undef=vb) :
  (results Tryz.f253 tmps).run Tryz.prog W = .ok (.tuple #[.agg (fc v).toArray,vb]) W:=by
 have hr:Tryz.f253.results=#[.cell 2 273,.tmp 3]:=rfl
 have q0:=hp.cell 0
 have q1:=hp.cell 1
 have q2:=hp.cell 2
 simp at q0 q1 q2
 simp[results,h2,h3,go_sem,q0,q1,q2]
theorem canon_any (v:ByteArray)(w:World)(h:Plain v) :
  Calls Tryz.prog 253 #[.agg (fc v).toArray] w fun e w'=>e = .returned (.tuple #[.agg (fc v).toArray,.int .i64 0])∧Fr [] w w':=by
 obtain⟨W,hW⟩:∃ W,W=(w.alloc (.cells (fc v).toArray 273)).alloc (.cells #[.int .i64 0,.int .i64 0,.string ⟨#[]⟩] 273):=⟨_,rfl⟩
 have f0:Fr [] w W:=by rw[hW];exact((Fr.refl _ _).alloc _).alloc _
 have b1:Holds W w.heap.size 273 (fc v).toArray:=by rw[hW];exact(Holds.new _ _ _).alloc _
 have b2:Holds W (w.heap.size+1) 273 #[.int .i64 0,.int .i64 0,.string ⟨#[]⟩]:=by rw[hW];exact at_new (by simp)
 have HC:=hid (clean_any v W h)
 go_enter Tryz.func253,Tryz.ntmps253
 go_wp2_with (fail)
 rw[←hW]
 clear hW
 refine HC.out.mono ?_
 rintro e w2 ⟨rfl,f2⟩
 have c1:=b1.fr f2 (by simp)
 have c2:=b2.fr f2 (by simp)
 have q0:=c1.cell 0
 have q1:=c1.cell 1
 have q2:=c1.cell 2
 have d0:=c2.cell 0
 have d1:=c2.cell 1
 have d2:=c2.cell 2
 have y0:=c2.frozen 0
 have y1:=c2.frozen 1
 have y2:=c2.frozen 2
 have l2:=c2.lt
 simp at q0 q1 q2 d0 d1 d2
 go_wp2_with (fail)
 exact bodyPost_ret (ret_canon _ _ (w.heap.size+1) v _ (put3_holds v c2) rfl rfl) rfl ⟨rfl,put3_fr (f0.trans f2) (by omega)⟩
theorem may_any (v:ByteArray)(w:World)(h:Plain v) :
  Calls Tryz.prog 225 #[.agg (fc v).toArray] w fun e w'=>e = .returned (.bool true)∧Fr [] w w':=by
 obtain⟨W,hW⟩:∃ W,W=w.alloc (.cells (fc v).toArray 273):=⟨_,rfl⟩
 have f0:Fr [] w W:=by rw[hW];exact(Fr.refl _ _).alloc _
 have b1:Holds W w.heap.size 273 (fc v).toArray:=by rw[hW];exact Holds.new _ _ _
 have HC:=hid (canon_any v W h)
 have q0:=b1.cell 0
 have q1:=b1.cell 1
 have q2:=b1.cell 2
 simp at q0 q1 q2
 go_enter Tryz.func225,Tryz.ntmps225
 go_wp2_with (fail)
 rw[←hW]
 clear hW
 go_wp2_with (fail)
 refine HC.out.mono ?_
 rintro e w2 ⟨rfl,f2⟩
 have c1:=b1.fr f2 (by simp)
 clear q0 q1 q2
 have q0:=c1.cell 0
 have q1:=c1.cell 1
 have q2:=c1.cell 2
 have l1:=c1.lt
 simp at q0 q1 q2
 go_wp2_with (fail)
 go_ret
 exact⟨rfl,(f0.trans f2).trans ((Fr.refl _ _).alloc _)⟩
def wordsC : List Value := [.string ⟨#[]⟩, .string nmB, .string (M.bs "org"), .string (M.bs "tel"), .string (M.bs "mail"), .string (M.bs "day"), .string (M.bs "note")]
def labelsC : List Value := [.string ⟨#[]⟩, .string (M.bs ";home"), .string (M.bs ";work"), .string (M.bs ";cell")]
theorem words_any (w:World):Calls Tryz.prog 223 #[] w fun e w'=>e = .returned (.slice (some ⟨w.heap.size,0,none⟩) 7 7)∧w'=w.alloc (.cells wordsC.toArray 9):=by
 go_enter Tryz.func223,Tryz.ntmps223
 go_wp2
 go_ret
 exact⟨rfl,by congr 2⟩
theorem labels_any (w:World):Calls Tryz.prog 224 #[] w fun e w'=>e = .returned (.slice (some ⟨w.heap.size,0,none⟩) 4 4)∧w'=w.alloc (.cells labelsC.toArray 9):=by
 go_enter Tryz.func224,Tryz.ntmps224
 go_wp2
 go_ret
 exact⟨rfl,by congr 2⟩
end Go.Proofs.YtjmkkcckfbnmeaaGreatDoor.Rf
namespace Go.Proofs.YtjmkkcckfbnmeaaGreatDoor.Rf
open Go.RowKit Fm Ct Fd
theorem words_fr (w:World):Calls Tryz.prog 223 #[] w fun e w'=>∃ b,e = .returned (.slice (some ⟨b,0,none⟩) 7 7)∧w'.cell? ⟨b,1,none⟩=some (.string nmB)∧b<w'.heap.size∧Fr [] w w' :=
 (words_any w).mono fun _ _ ⟨h1,h2⟩=>⟨_,h1,by rw[h2];exact(Holds.new w 9 wordsC.toArray).cell 1,by rw[h2];simp,by rw[h2];exact(Fr.refl _ _).alloc _⟩
theorem labels_fr (w:World):Calls Tryz.prog 224 #[] w fun e w'=>∃ b,e = .returned (.slice (some ⟨b,0,none⟩) 4 4)∧w'.cell? ⟨b,0,none⟩=some (.string ⟨#[]⟩)∧b<w'.heap.size∧Fr [] w w' :=
 (labels_any w).mono fun _ _ ⟨h1,h2⟩=>⟨_,h1,by rw[h2];exact(Holds.new w 9 labelsC.toArray).cell 0,by rw[h2];simp,by rw[h2];exact(Fr.refl _ _).alloc _⟩
theorem line_any (v:ByteArray)(w:World)(h:Plain v) :
  Calls Tryz.prog 255 #[.agg (fc v).toArray] w fun e w'=>e = .returned (.string (lineOf v))∧Fr [] w w':=by
 obtain⟨W,hW⟩:∃ W,W=w.alloc (.cells (fc v).toArray 273):=⟨_,rfl⟩
 have f0:Fr [] w W:=by rw[hW];exact(Fr.refl _ _).alloc _
 have b1:Holds W w.heap.size 273 (fc v).toArray:=by rw[hW];exact Holds.new _ _ _
 have HC:=hid (may_any v W h)
 have hz:=h.s2
 have hn:=nmB_size
 have hcap:¬ (9223372036854775807<5+v.size):=by omega
 have q0:=b1.cell 0
 have q1:=b1.cell 1
 have q2:=b1.cell 2
 simp at q0 q1 q2
 have HW:=hid words_fr
 have HL:=hid labels_fr
 obtain⟨N,hN⟩:∃ N,nmB=N:=⟨_,rfl⟩
 have HN:=hid hN
 rw[hN] at HW hn
 clear hN
 go_enter Tryz.func255,Tryz.ntmps255
 go_wp2_with (fail)
 rw[←hW]
 clear hW
 go_wp2_with (fail)
 refine HC.out.mono ?_
 rintro e w2 ⟨rfl,f2⟩
 have c1:=b1.fr f2 (by simp)
 clear q0 q1 q2
 have q0:=c1.cell 0
 have q1:=c1.cell 1
 have q2:=c1.cell 2
 have l1:=c1.lt
 simp at q0 q1 q2
 go_wp2_with (fail)
 have S0:=hid (And.intro q0 (And.intro q1 q2))
 refine wp_region_noPanic ?_
 refine wp_region_held_drew (S:=(fun w'=>Fr [] w2 w'∧w'.cell? ⟨w.heap.size,0,none⟩=some (.int .i64 1)∧w'.cell? ⟨w.heap.size,1,none⟩=some (.int .i64 0)∧w'.cell? ⟨w.heap.size,2,none⟩=some (.string v))) (by kernel_rfl) ⟨(Fr.refl _ _).drew,S0.out.1,S0.out.2.1,S0.out.2.2⟩ (fun hS=>?_)
 refine wpAnyH_take (i:=1) (oi:=⟨some 7,_,_,_,_,_⟩) (v:=?_) rfl (by kernel_rfl) (by kernel_rfl) (by kernel_rfl) (fun _ _ _ h=>h) (Or.inl ⟨by rfl,?_⟩) (by assumption) ?_
 rotate_left
 ·intro w hSw;(try dsimp only at hSw);go_simp<;>with_reducible rfl
 try simp only[Act.put,List.setIfInBounds_toArray,List.set_cons_zero,List.set_cons_succ]
 refine wpAnyH_take (i:=2) (oi:=⟨some 8,_,_,_,_,_⟩) (v:=?_) rfl (by kernel_rfl) (by kernel_rfl) (by kernel_rfl) (fun _ _ _ h=>h) (Or.inl ⟨by rfl,?_⟩) (by assumption) ?_
 rotate_left
 ·intro w hSw;(try dsimp only at hSw);go_simp<;>with_reducible rfl
 try simp only[Act.put,List.setIfInBounds_toArray,List.set_cons_zero,List.set_cons_succ]
 refine wpAnyH_take (i:=6) (oi:=⟨some 12,_,_,_,_,_⟩) (v:=?_) rfl (by kernel_rfl) (by kernel_rfl) (by kernel_rfl) (fun _ _ _ h=>h) (Or.inl ⟨by rfl,?_⟩) (by assumption) ?_
 rotate_left
 ·intro w hSw;(try dsimp only at hSw);go_simp<;>with_reducible rfl
 try simp only[Act.put,List.setIfInBounds_toArray,List.set_cons_zero,List.set_cons_succ]
 refine wpAnyH_take (i:=7) (oi:=⟨some 13,_,_,_,_,_⟩) (v:=?_) rfl (by kernel_rfl) (by kernel_rfl) (by kernel_rfl) (fun _ _ _ h=>h) (Or.inl ⟨by rfl,?_⟩) (by assumption) ?_
 rotate_left
 ·intro w hSw;(try dsimp only at hSw);go_simp<;>with_reducible rfl
 try simp only[Act.put,List.setIfInBounds_toArray,List.set_cons_zero,List.set_cons_succ]
 refine wpAnyH_take (i:=12) (oi:=⟨some 18,_,_,_,_,_⟩) (v:=?_) rfl (by kernel_rfl) (by kernel_rfl) (by kernel_rfl) (fun _ _ _ h=>h) (Or.inl ⟨by rfl,?_⟩) (by assumption) ?_
 rotate_left
 ·intro w hSw;(try dsimp only at hSw);go_simp<;>with_reducible rfl
 try simp only[Act.put,List.setIfInBounds_toArray,List.set_cons_zero,List.set_cons_succ]
 refine wpAnyH_take (i:=13) (oi:=⟨some 19,_,_,_,_,_⟩) (v:=?_) rfl (by kernel_rfl) (by kernel_rfl) (by kernel_rfl) (fun _ _ _ h=>h) (Or.inl ⟨by rfl,?_⟩) (by assumption) ?_
 rotate_left
 ·intro w hSw;(try dsimp only at hSw);go_simp<;>with_reducible rfl
 try simp only[Act.put,List.setIfInBounds_toArray,List.set_cons_zero,List.set_cons_succ]
 refine wpAnyH_ready (rs:=[0]) (by kernel_rfl) (by simp) ?_
 refine AllReadyH.cons rfl (fun K hK=>?_) AllReadyH.nil
 go_simp
 refine(HW.out _).mono ?_
 rintro e w3 ⟨b,rfl,y1,yl,f3⟩
 have F3:Fr [] w2 w3:=(Fr.refl _ _).drew.trans f3
 go_wp2_with (fail)
 refine hK.out _ _ ⟨F3,F3.cell S0.out.1 l1 (by simp),F3.cell S0.out.2.1 l1 (by simp),F3.cell S0.out.2.2 l1 (by simp)⟩ (fun hS=>?_)
 clear hK K
 try simp only[Act.put,List.setIfInBounds_toArray,List.set_cons_zero,List.set_cons_succ]
 refine wpAnyH_take (i:=3) (oi:=⟨some 9,_,_,_,_,_⟩) (v:=?_) rfl (by kernel_rfl) (by kernel_rfl) (by kernel_rfl) (fun _ _ _ h=>h) (Or.inl ⟨by rfl,?_⟩) (by assumption) ?_
 rotate_left
 ·intro w hSw;(try dsimp only at hSw);go_simp<;>with_reducible rfl
 try simp only[Act.put,List.setIfInBounds_toArray,List.set_cons_zero,List.set_cons_succ]
 refine wpAnyH_ready (rs:=[4,5]) (by kernel_rfl) (by simp) ?_
 refine AllReadyH.cons rfl (fun K hK=>?_) (AllReadyH.cons rfl (fun K hK=>?_) AllReadyH.nil)
 focus
  go_simp
  refine hK.out _ _ hS (fun hS=>?_)
  clear hK K
  try simp only[Act.put,List.setIfInBounds_toArray,List.set_cons_zero,List.set_cons_succ]
  refine wpAnyH_ready (rs:=[5]) (by kernel_rfl) (by simp) ?_
  refine AllReadyH.cons rfl (fun K hK=>?_) AllReadyH.nil
  go_simp
  refine(HL.out _).mono ?_
  rintro e w4 ⟨b4,rfl,x1,xl,f4⟩
  have F4:Fr [] w2 w4:=F3.trans f4
  have y1:=f4.cell y1 yl (by simp)
  go_wp2_with (fail)
  refine hK.out _ _ ⟨F4,F4.cell S0.out.1 l1 (by simp),F4.cell S0.out.2.1 l1 (by simp),F4.cell S0.out.2.2 l1 (by simp)⟩ (fun hS=>?_)
  clear hK K
  try simp only[Act.put,List.setIfInBounds_toArray,List.set_cons_zero,List.set_cons_succ]
  refine wpAnyH_take (i:=8) (oi:=⟨some 14,_,_,_,_,_⟩) (v:=?_) rfl (by kernel_rfl) (by kernel_rfl) (by kernel_rfl) (fun _ _ _ h=>h) (Or.inl ⟨by rfl,?_⟩) (by assumption) ?_
  rotate_left
  ·intro w hSw;(try dsimp only at hSw);go_simp<;>with_reducible rfl
  try simp only[Act.put,List.setIfInBounds_toArray,List.set_cons_zero,List.set_cons_succ]
  refine wpAnyH_ready (rs:=[9]) (by kernel_rfl) (by simp) ?_
  refine AllReadyH.cons rfl (fun K hK=>?_) AllReadyH.nil
  go_simp
  refine hK.out _ _ hS (fun hS=>?_)
  clear hK K
  try simp only[Act.put,List.setIfInBounds_toArray,List.set_cons_zero,List.set_cons_succ]
 rotate_left
 focus
  go_simp
  refine(HL.out _).mono ?_
  rintro e w4 ⟨b4,rfl,x1,xl,f4⟩
  have F4:Fr [] w2 w4:=F3.trans f4
  have y1:=f4.cell y1 yl (by simp)
  go_wp2_with (fail)
  refine hK.out _ _ ⟨F4,F4.cell S0.out.1 l1 (by simp),F4.cell S0.out.2.1 l1 (by simp),F4.cell S0.out.2.2 l1 (by simp)⟩ (fun hS=>?_)
  clear hK K
  try simp only[Act.put,List.setIfInBounds_toArray,List.set_cons_zero,List.set_cons_succ]
  refine wpAnyH_take (i:=8) (oi:=⟨some 14,_,_,_,_,_⟩) (v:=?_) rfl (by kernel_rfl) (by kernel_rfl) (by kernel_rfl) (fun _ _ _ h=>h) (Or.inl ⟨by rfl,?_⟩) (by assumption) ?_
  rotate_left
  ·intro w hSw;(try dsimp only at hSw);go_simp<;>with_reducible rfl
  try simp only[Act.put,List.setIfInBounds_toArray,List.set_cons_zero,List.set_cons_succ]
  refine wpAnyH_ready (rs:=[4,9]) (by kernel_rfl) (by simp) ?_
  refine AllReadyH.cons rfl (fun K hK=>?_) (AllReadyH.cons rfl (fun K hK=>?_) AllReadyH.nil)
 focus
  go_simp
  refine hK.out _ _ hS (fun hS=>?_)
  clear hK K
  try simp only[Act.put,List.setIfInBounds_toArray,List.set_cons_zero,List.set_cons_succ]
  refine wpAnyH_ready (rs:=[9]) (by kernel_rfl) (by simp) ?_
  refine AllReadyH.cons rfl (fun K hK=>?_) AllReadyH.nil
  go_simp
  refine hK.out _ _ hS (fun hS=>?_)
  clear hK K
  try simp only[Act.put,List.setIfInBounds_toArray,List.set_cons_zero,List.set_cons_succ]
 rotate_left
 focus
  go_simp
  refine hK.out _ _ hS (fun hS=>?_)
  clear hK K
  try simp only[Act.put,List.setIfInBounds_toArray,List.set_cons_zero,List.set_cons_succ]
  refine wpAnyH_ready (rs:=[4]) (by kernel_rfl) (by simp) ?_
  refine AllReadyH.cons rfl (fun K hK=>?_) AllReadyH.nil
  go_simp
  refine hK.out _ _ hS (fun hS=>?_)
  clear hK K
  try simp only[Act.put,List.setIfInBounds_toArray,List.set_cons_zero,List.set_cons_succ]
 all_goals
  refine wpAnyH_take (i:=10) (oi:=⟨some 16,_,_,_,_,_⟩) (v:=?_) rfl (by kernel_rfl) (by kernel_rfl) (by kernel_rfl) (fun _ _ _ h=>h) (Or.inl ⟨by rfl,?_⟩) (by assumption) ?_
  rotate_left
  ·intro w hSw;(try dsimp only at hSw);go_simp<;>with_reducible rfl
  try simp only[Act.put,List.setIfInBounds_toArray,List.set_cons_zero,List.set_cons_succ]
  refine wpAnyH_take (i:=11) (oi:=⟨some 17,_,_,_,_,_⟩) (v:=?_) rfl (by kernel_rfl) (by kernel_rfl) (by kernel_rfl) (fun _ _ _ h=>h) (Or.inl ⟨by rfl,?_⟩) (by assumption) ?_
  rotate_left
  ·intro w hSw;(try dsimp only at hSw);go_simp<;>with_reducible rfl
  try simp only[Act.put,List.setIfInBounds_toArray,List.set_cons_zero,List.set_cons_succ]
  refine wpAnyH_take (i:=14) (oi:=⟨some 20,_,_,_,_,_⟩) (v:=?_) rfl (by kernel_rfl) (by kernel_rfl) (by kernel_rfl) (fun _ _ _ h=>h) (Or.inl ⟨by rfl,?_⟩) (by assumption) ?_
  rotate_left
  ·intro w hSw;(try dsimp only at hSw);go_simp<;>with_reducible rfl
  try simp only[Act.put,List.setIfInBounds_toArray,List.set_cons_zero,List.set_cons_succ]
  refine wpAnyH_take (i:=15) (oi:=⟨some 2,_,_,_,_,_⟩) (v:=?_) rfl (by kernel_rfl) (by kernel_rfl) (by kernel_rfl) (fun _ _ _ h=>h) (Or.inl ⟨by rfl,?_⟩) (by assumption) ?_
  rotate_left
  ·intro w hSw;(try dsimp only at hSw);go_simp<;>with_reducible rfl
  try simp only[Act.put,List.setIfInBounds_toArray,List.set_cons_zero,List.set_cons_succ]
  refine wpAnyH_done (by kernel_rfl) ?_ _
  refine NoPanic.normal ?_
  clear q0 q1 q2
  go_wp2_with (fail)
  go_ret
  exact⟨ret_str (by rw[←HN.out];exact ba_ext (by simp[lineOf])),(f0.trans f2).trans hS.1⟩
theorem ret_parse (W:World)(tmps:Array Value)(g:Nat)(v:ByteArray)(vb:Value)(hp:Holds W g 273 (fc v).toArray)(h2:tmps[2]?.getD undef = .pointer (some ⟨g,0,none⟩))(h3:tmps[3]?.getD undef=vb) :
  (results Tryz.f184 tmps).run Tryz.prog W = .ok (.tuple #[.agg (fc v).toArray,vb]) W:=by
 have hr:Tryz.f184.results=#[.cell 2 273,.tmp 3]:=rfl
 have q0:=hp.cell 0
 have q1:=hp.cell 1
 have q2:=hp.cell 2
 simp at q0 q1 q2
 simp[results,h2,h3,go_sem,q0,q1,q2]
theorem line_head (v:ByteArray):(lineOf v).extract 0 5=nmB++⟨#[58]⟩:=by
 apply ba_ext
 rw[extract_list,lineOf_list,nmB_list]
 simp[nmB_list]
theorem line_rest (v:ByteArray):(lineOf v).extract 5 (lineOf v).size=v:=by
 apply ba_ext
 rw[extract_list,List.take_of_length_le (by simp),lineOf_list,nmB_list]
 rfl
theorem parse_any (v:ByteArray)(w:World)(h:Plain v) :
  Calls Tryz.prog 184 #[.string (lineOf v)] w fun e w'=>e = .returned (.tuple #[.agg (fc v).toArray,.int .i64 0])∧Fr [] w w':=by
 obtain⟨W,hW⟩:∃ W,W=w.alloc (.cells #[.int .i64 0,.int .i64 0,.string ⟨#[]⟩] 273):=⟨_,rfl⟩
 have f0:Fr [] w W:=by rw[hW];exact(Fr.refl _ _).alloc _
 have b1:Holds W w.heap.size 273 #[.int .i64 0,.int .i64 0,.string ⟨#[]⟩]:=by rw[hW];exact Holds.new _ _ _
 have hls:=lineOf_size v
 have hz:=h.s2
 have hz1:=h.s1
 have hn:=nmB_size
 have HM:=hid (fun W=>may_any v W h)
 have hh:=line_head v
 have hr:=line_rest v
 have HW:=hid words_fr
 have HL:=hid labels_fr
 obtain⟨s,hs⟩:∃ s,lineOf v=s:=⟨_,rfl⟩
 rw[hs] at hls hh hr ⊢
 obtain⟨N,hN⟩:∃ N,nmB=N:=⟨_,rfl⟩
 rw[hN] at HW hn hh
 have hnn:N++(⟨#[]⟩:ByteArray)=N:=ba_ext (by simp)
 clear hN hs h
 go_enter Tryz.func184,Tryz.ntmps184
 go_wp2_with (fail)
 rw[←hW]
 clear hW
 refine(HW.out W).mono ?_
 rintro e w2 ⟨b2,rfl,y1,yl,f2⟩
 go_wp2_with (fail)
 refine(HL.out _).mono ?_
 rintro e w3 ⟨b3,rfl,x1,xl,f3⟩
 have y1:=f3.cell y1 yl (by simp)
 go_wp2_with (fail)
 refine wp_loop_rounds 1 ?_
 rw[rounds_succ]
 go_wp2_with (fail)
 refine wp_loop_rounds 1 ?_
 rw[rounds_succ]
 go_wp2_with (fail)
 go_quiet (fail)
 obtain⟨W3,hW3⟩:∃ W3,W3=w3.drewN nq:=⟨_,rfl⟩
 have f33:Fr [] w3 W3:=by rw[hW3];exact(Fr.refl _ _).drewN _
 rw[←hW3]
 clear hW3
 go_wp2_with (fail)
 rw[show s.extract 5 (5+v.size)=v by rw[←hls];exact hr]
 refine(HM.out _).mono ?_
 rintro e w4 ⟨rfl,f4⟩
 have fW3:Fr [] W W3:=(f2.trans f3).trans f33
 have fW:Fr [] W w4:=(fW3.alloc _).trans f4
 have c1:=b1.fr fW (by simp)
 have c2:=(Holds.new W3 273 (fc v).toArray).fr f4 (by simp)
 have q0:=c2.cell 0
 have q1:=c2.cell 1
 have q2:=c2.cell 2
 have d0:=c1.cell 0
 have d1:=c1.cell 1
 have d2:=c1.cell 2
 have y0:=c1.frozen 0
 have y1:=c1.frozen 1
 have y2:=c1.frozen 2
 have l2:=c1.lt
 simp at q0 q1 q2 d0 d1 d2
 go_wp2_with (fail)
 exact bodyPost_ret (ret_parse _ _ w.heap.size v _ (put3_holds v c1) rfl rfl) rfl ⟨rfl,put3_fr (f0.trans fW) (Nat.le_refl _)⟩
end Go.Proofs.YtjmkkcckfbnmeaaGreatDoor.Rf
namespace Go.Proofs.YtjmkkcckfbnmeaaGreatDoor.Rf
open Go.RowKit Fm Ct Fd
theorem has_nil (v:ByteArray)(w:World):Calls Tryz.prog 292 #[.slice none 0 0,.agg (fc v).toArray] w fun e w'=>e = .returned (.bool false)∧Fr [] w w':=by
 go_enter Tryz.func292,Tryz.ntmps292
 go_wp2_with (fail)
 refine wp_loop_rounds 1 ?_
 rw[rounds_succ]
 go_wp2_with (fail)
 go_ret
 exact⟨rfl,(Fr.refl _ _).alloc _⟩
theorem rise_one (v:ByteArray)(w:World)(g c:Nat)(hr:One w g c v) :
  Calls Tryz.prog 254 #[.slice (some ⟨g,0,none⟩) 1 c] w fun e w'=>∃ g' c',e = .returned (.slice (some ⟨g',0,none⟩) 1 c')∧One w' g' c' v∧w.heap.size≤g'∧Fr [] w w':=by
 obtain⟨i5,hi,hz0,hz1,hz2⟩:=info_parts infoF
 have hgl:=hr.lt
 obtain⟨q0,q1,q2⟩:=one_cells hr
 have HH:=hid (has_nil v)
 go_enter Tryz.func254,Tryz.ntmps254
 go_wp2_with (fail)
 refine wp_loop_rounds 2 ?_
 rw[rounds_succ]
 go_wp2_with (fail)
 refine(HH.out _).mono ?_
 rintro e w2 ⟨rfl,f2⟩
 have q0:=f2.cell q0 hgl (by simp)
 have q1:=f2.cell q1 hgl (by simp)
 have q2:=f2.cell q2 hgl (by simp)
 have hgl:=Nat.lt_of_lt_of_le hgl f2.size
 go_wp2_with (fail)
 refine wp_loop_rounds 1 ?_
 rw[rounds_succ]
 go_wp2_with (fail)
 go_quiet (fail)
 obtain⟨W3,hW3⟩:∃ W3,W3=w2.drewN nq:=⟨_,rfl⟩
 have f3:Fr [] w2 W3:=by rw[hW3];exact(Fr.refl _ _).drewN _
 rw[←hW3]
 clear hW3
 have q0:=f3.cell q0 hgl (by simp)
 have q1:=f3.cell q1 hgl (by simp)
 have q2:=f3.cell q2 hgl (by simp)
 go_wp2_with (at_builtin;first
  | (refine wpList_append_sl rfl (.tmp 41) (.tmp 46) 208 rfl i5 _ 32 Tryz.underlying208 hi hz0 hz1 hz2 rfl (by decide) _ _ rfl (Sl.nil _ _ _) _ 1 1 (fc v) rfl rfl (Cells.of_holds (at_new (t:=273) (cs:=(fc v).toArray) (by simp))) (fc_one v) (by unfold maxLen;omega) (by omega) ?_;intro v5 w5 own5 hs5 hf5 ho5 hm5;obtain⟨g5,c5,rfl,rfl,hg5,r5⟩:=got_row (B:=w.heap.size) hs5 ho5 (by have:=f2.size;have:=f3.size;simp;omega) (by simp) (hm5 (by omega));simp only[Nat.zero_add,List.nil_append] at r5;have f5:Fr [] w w5:=((f2.trans f3).alloc _).step hf5 (by simp))
  | (refine wpList_append_sl rfl (.tmp 48) (.tmp 51) 208 rfl i5 _ 32 Tryz.underlying208 hi hz0 hz1 hz2 rfl (by decide) _ _ rfl (Sl.row r5) none 0 0 [] rfl rfl (Cells.nil _) (by simp) (by unfold maxLen;omega) (by omega) ?_;intro v6 w6 own6 hs6 hf6 ho6 hm6;obtain⟨g6,c6,rfl,rfl,hg6,r6⟩:=got_some (B:=w.heap.size) hs6 ho6 f5.size hg5;simp only[Nat.add_zero,List.append_nil] at r6;have f6:Fr [] w w6:=f5.step hf6 (by simpa using hg5)))
 clear q0 q1 q2
 rw[rounds_succ]
 go_wp2_with (fail)
 go_ret
 exact⟨g6,c6,rfl,r6,hg6,f6⟩
theorem lines_one (v:ByteArray)(w:World)(g c:Nat)(h:Plain v)(hr:One w g c v) :
  Calls Tryz.prog 227 #[.slice (some ⟨g,0,none⟩) 1 c] w fun e w'=>e = .returned (.string (cardOf v))∧Fr [] w w':=by
 have hls:=lineOf_size v
 have hz:=h.s2
 have hgl:=hr.lt
 obtain⟨q0,q1,q2⟩:=one_cells hr
 have HL:=hid (fun W=>line_any v W h)
 have hco:(⟨#[]⟩:ByteArray)++(lineOf v++⟨#[10]⟩)=cardOf v:=ba_ext (by simp[cardOf])
 have HC:=hid hco
 clear hco
 obtain⟨s,hs⟩:∃ s,lineOf v=s:=⟨_,rfl⟩
 rw[hs] at HL hls HC
 have hcap:¬ (9223372036854775807<5+v.size+1):=by omega
 clear hs hr
 go_enter Tryz.func227,Tryz.ntmps227
 go_wp2_with (fail)
 refine wp_loop_rounds 2 ?_
 rw[rounds_succ]
 go_wp2_with (fail)
 refine(HL.out _).mono ?_
 rintro e w2 ⟨rfl,f2⟩
 go_wp2_with (fail)
 rw[rounds_succ]
 go_wp2_with (fail)
 go_ret
 exact⟨ret_str HC.out,f2⟩
theorem fields_one (v:ByteArray)(w:World)(g c:Nat)(h:Plain v)(hr:One w g c v) :
  Calls Tryz.prog 226 #[.slice (some ⟨g,0,none⟩) 1 c] w fun e w'=>∃ g' c',e = .returned (.tuple #[.slice (some ⟨g',0,none⟩) 1 c',.int .i64 0])∧One w' g' c' v∧w.heap.size≤g'∧Fr [] w w':=by
 obtain⟨i5,hi,hz0,hz1,hz2⟩:=info_parts infoF
 have hz:=h.s2
 have hgl:=hr.lt
 obtain⟨q0,q1,q2⟩:=one_cells hr
 have hcs:=cardOf_size v
 have HC:=hid (fun W=>canon_any v W h)
 have HT:=hid (fun W g c (hr:One W g c v)=>lines_one v W g c h hr)
 obtain⟨s,hs⟩:∃ s,cardOf v=s:=⟨_,rfl⟩
 rw[hs] at HT hcs
 clear hr hs
 go_enter Tryz.func226,Tryz.ntmps226
 go_wp2_with (fail)
 refine wp_loop_rounds 2 ?_
 rw[rounds_succ]
 go_wp2_with (fail)
 refine(HC.out _).mono ?_
 rintro e w2 ⟨rfl,f2⟩
 clear q0 q1 q2
 go_wp2_with (at_builtin;(refine wpList_append_sl rfl (.tmp 27) (.tmp 29) 208 rfl i5 _ 32 Tryz.underlying208 hi hz0 hz1 hz2 rfl (by decide) _ _ rfl (Sl.nil _ _ _) _ 1 1 (fc v) rfl rfl (Cells.of_holds (at_new (t:=273) (cs:=(fc v).toArray) (by simp))) (fc_one v) (by unfold maxLen;omega) (by omega) ?_;intro v3 w3 own3 hs3 hf3 ho3 hm3;obtain⟨g3,c3,rfl,rfl,hg3,r3⟩:=got_row (B:=w.heap.size) hs3 ho3 (by have:=f2.size;simp;omega) (by simp) (hm3 (by omega));simp only[Nat.zero_add,List.nil_append] at r3))
 have f4:Fr [] w w3:=((f2.alloc _).alloc _).step hf3 (by simp)
 go_wp2_with (fail)
 rw[rounds_succ]
 go_wp2_with (fail)
 refine(rise_one v w3 g3 c3 r3).mono ?_
 rintro e w5 ⟨g5,c5,rfl,r5,hg5,f5⟩
 have hg3l:=r5.lt
 obtain⟨q0,q1,q2⟩:=one_cells r5
 go_wp2_with (fail)
 refine wp_loop_rounds 2 ?_
 rw[rounds_succ]
 go_wp2_with (fail)
 rw[rounds_succ]
 go_wp2_with (fail)
 have f6:Fr [] w5 (w5.alloc (.cells #[.int .i64 0,.int .i64 1,.int .i64 0,.int .i64 0,.int .i64 0,.int .i64 0,.int .i64 0] 353)):=(Fr.refl _ _).alloc _
 have r6:=r5.fr f6 (by simp)
 refine(HT.out _ g5 c5 r6).mono ?_
 rintro e w7 ⟨rfl,f7⟩
 have r7:=r6.fr f7 (by simp)
 have hsz:(s.size:Int)≤13:=by omega
 clear q0 q1 q2 r3 r5 r6
 go_wp2_with (fail)
 go_ret2
 exact⟨g5,c5,rfl,r7,Nat.le_trans f4.size hg5,((f4.trans f5).trans f6).trans f7⟩
theorem text_one (v:ByteArray)(w:World)(g c:Nat)(h:Plain v)(hr:One w g c v) :
  Calls Tryz.prog 185 #[.slice (some ⟨g,0,none⟩) 1 c] w fun e w'=>e = .returned (.tuple #[.string (cardOf v),.int .i64 0])∧Fr [] w w':=by
 have HC:=hid (fields_one v w g c h hr)
 have HT:=hid (fun W g c (hr:One W g c v)=>lines_one v W g c h hr)
 clear hr
 go_enter Tryz.func185,Tryz.ntmps185
 go_wp2_with (fail)
 refine HC.out.mono ?_
 rintro e w2 ⟨g',c',rfl,r2,hg,f2⟩
 go_wp2_with (fail)
 refine(HT.out _ g' c' r2).mono ?_
 rintro e w3 ⟨rfl,f3⟩
 go_wp2_with (fail)
 go_ret2
 exact⟨rfl,f2.trans f3⟩
theorem card_line (v:ByteArray):(cardOf v).extract 0 (lineOf v).size=lineOf v:=extract_head (cardOf_list v)
theorem u8_ten {x:UInt8}(h:(x.toNat:Int)=10):x=10:=by
 apply UInt8.toNat_inj.1
 have:x.toNat=10:=by omega
 rw[this]
 rfl
def NlAt (s:ByteArray)(m:Nat):Prop:=∀ (k:Nat) (hk:k<s.size),s[k]=10 ↔ k=m
theorem card_at (v:ByteArray)(h:Plain v):NlAt (cardOf v) (lineOf v).size:=by
 intro k hk
 have hz:=cardOf_size v
 have hl:=lineOf_size v
 have e:(cardOf v).data.toList[k]'(by simpa using hk)=(cardOf v)[k]:=rfl
 have e2:(cardOf v).data.toList[k]? = some (cardOf v)[k]:=by rw[←e,List.getElem?_eq_getElem]
 rw[cardOf_list] at e2
 have hll:(lineOf v).data.toList.length=(lineOf v).size:=by simp
 constructor
 ·intro h10
  rcases Nat.lt_or_ge k (lineOf v).size with hlt|hge
  ·rw[List.getElem?_append_left (by omega)] at e2
   exact absurd (h10 ▸ List.mem_of_getElem? e2) (no_end h)
  ·omega
 ·rintro rfl
  rw[List.getElem?_append_right (by omega),hll] at e2
  simpa using e2.symm
theorem rparse_any (v:ByteArray)(w:World)(h:Plain v) :
  Calls Tryz.prog 130 #[.string (cardOf v)] w fun e w'=>∃ vl,e = .returned (.tuple #[vl,.int .i64 0])∧Fr [] w w':=by
 obtain⟨i5,hi,hz0,hz1,hz2⟩:=info_parts infoF
 have hcs:=cardOf_size v
 have hls:=lineOf_size v
 have hz:=h.s2
 have HA:=hid (card_at v h)
 have HX:=hid (card_line v)
 have HP:=hid (fun W=>parse_any v W h)
 have HT:=hid (fun W g c (hr:One W g c v)=>text_one v W g c h hr)
 obtain⟨s,hs⟩:∃ s,cardOf v=s:=⟨_,rfl⟩
 obtain⟨m,hm⟩:∃ m,(lineOf v).size=m:=⟨_,rfl⟩
 rw[hm] at hls HA HX
 rw[hs] at HT hcs HX HA ⊢
 have hsm:s.size=m+1:=by omega
 have hm12:m≤12:=by omega
 clear hls hcs
 clear hs hm
 go_enter Tryz.func130,Tryz.ntmps130
 go_wp2_with (fail)
 go_loopw [4,5,6] (fun l a i wr=>Fr [] w wr∧((l = .slice none 0 0∧a = .int .i64 0∧∃ k:Nat,k≤m∧i = .int .i64 k)∨(i = .int .i64 (m+1:Nat)∧∃ g c,l = .slice (some ⟨g,0,none⟩) 1 c∧One wr g c v))) (fun _ _ i _=>(m+1) - (intOf i).toNat)
 case atStart=>exact⟨Fr.refl _ _,.inl ⟨rfl,rfl,0,Nat.zero_le _,rfl⟩⟩
 case round =>
  obtain⟨fr,⟨rfl,rfl,k,hk,rfl⟩|⟨rfl,g,c,rfl,hr⟩⟩:=hrel
  ·have hlt:k<s.size:=by omega
   have hat:=HA.out k hlt
   rcases Nat.lt_or_ge k m with hkm|hkm
   ·have hne:s[k]≠10:=fun e=>by have:=hat.1 e;omega
    have hne2:¬ ((s[k].toNat:Int)=10):=fun e=>hne (u8_ten e)
    have d1:((s[k].toNat:Int)==10)=false:=by simpa using hne2
    have hk1:(k:Int)<(s.size:Int):=by omega
    clear hat hne
    go_wp2_with (fail)
    go_roundw
    case rel=>exact⟨fr,.inl ⟨rfl,rfl,k+1,by omega,by go_num⟩⟩
    case measure=>simp[intOf];omega
   ·obtain rfl:k=m:=by omega
    have he:s[k]=10:=hat.2 rfl
    have he2:((s[k].toNat:Int)=10):=by rw[he];rfl
    have d1:((s[k].toNat:Int)==10)=true:=by simpa using he2
    have d2:((s[k].toNat:Int) != 10)=false:=by simpa using he2
    have hk1:(k:Int)<(s.size:Int):=by omega
    have hle:k≤s.size:=by omega
    clear hat he
    go_wp2_with (fail)
    rw[HX.out]
    refine(HP.out _).mono ?_
    rintro e w3 ⟨rfl,f3⟩
    have f4:=fr.trans f3
    go_wp2_with (at_builtin;(refine wpList_append_sl rfl (.tmp 34) (.tmp 36) 208 rfl i5 _ 32 Tryz.underlying208 hi hz0 hz1 hz2 rfl (by decide) _ _ rfl (Sl.nil _ _ _) _ 1 1 (fc v) rfl rfl (Cells.of_holds (at_new (t:=273) (cs:=(fc v).toArray) (by simp))) (fc_one v) (by unfold maxLen;omega) (by omega) ?_;intro v5 w5 own5 hs5 hf5 ho5 hm5;obtain⟨g5,c5,rfl,rfl,hg5,r5⟩:=got_row (B:=w.heap.size) hs5 ho5 (by have:=f4.size;simp;omega) (by simp) (hm5 (by omega));simp only[Nat.zero_add,List.nil_append] at r5))
    have f5:Fr [] w w5:=((f4.alloc _).alloc _).step hf5 (by simp)
    go_wp2_with (fail)
    go_roundw
    case rel=>exact⟨f5,.inr ⟨by go_num,g5,c5,rfl,r5⟩⟩
    case measure=>simp[intOf]
  ·have HR:=hid hr
   clear hr
   go_wp2_with (fail)
   refine(HT.out _ g c HR.out).mono ?_
   rintro e w6 ⟨rfl,f6⟩
   go_wp2_with (fail)
   go_ret2
   exact⟨_,rfl,fr.trans f6⟩
theorem ris_any (v:ByteArray)(w:World)(h:Plain v) :
  Calls Tryz.prog 93 #[.string (cardOf v)] w fun e w'=>e = .returned (.bool true)∧Fr [] w w':=by
 have HP:=hid (rparse_any v w h)
 generalize cardOf v=s at *
 go_enter Tryz.func93,Tryz.ntmps93
 go_wp2_with (fail)
 refine HP.out.mono ?_
 rintro e w2 ⟨vl,rfl,f2⟩
 go_wp2_with (fail)
 go_ret
 exact⟨rfl,f2⟩
theorem is_any (s:ByteArray)(w:World)(h:M.card3 s=true) :
  Calls Tryz.prog 93 #[.string s] w fun e w'=>e = .returned (.bool true)∧Fr [] w w':=by
 obtain⟨v,hv,rfl⟩:=card3_cases h
 exact ris_any v w hv
end Go.Proofs.YtjmkkcckfbnmeaaGreatDoor.Rf
