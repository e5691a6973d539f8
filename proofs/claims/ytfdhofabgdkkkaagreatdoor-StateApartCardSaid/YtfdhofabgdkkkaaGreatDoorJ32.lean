/- A part of the proof that what the machine is told keeps its bounds. -/
import Derived.Test.YtfdhofabgdkkkaaGreatDoorJ31
set_option maxHeartbeats 128000000
set_option maxRecDepth 100000
namespace Go.Proofs.YtfdhofabgdkkkaaGreatDoor
open Lib renaming hid→zz
open Go.RowKit Go.Fm Go.BigFrame Go.Shelf Go.Maps
set_option linter.unusedVariables false
set_option linter.unusedSimpArgs false
section
variable {w w':World} {S K:Nat→Prop}
theorem zKi {a b c:World} (h:Fr S a b) (k:Fr (fun _=>False) b c):Fr S a c:=h.trans k fun _ h=>h.elim
def zIs (z:yM):List Value:=[.int .i64 z.id,.slice z.ta z.tn z.tc]
theorem zLt (z:yM):(zIs z).length=2:=rfl
theorem zTx:(Tryz.prog.info? 314).map (fun i=>(i.zero,i.size,i.bytes))=some (some (.agg #[.int .i64 0,.slice none 0 0]),2,32):=by kernel_rfl
theorem zEy {B:Nat} {v:Value} {l:List yM} (h:w.ownsRow B 314 2 v l.length (l.flatMap zIs)):kY w v l:=by
 obtain ⟨oa,cap,hv,hc⟩:=xz h;refine ⟨oa,cap,hv,fun i z hz=>?_⟩;obtain ⟨g,rfl,-,-,hc⟩:=hc (by have:=(List.getElem?_eq_some_iff.1 hz).1; omega);exact ⟨g,rfl,hc _ _ ((xB zIs 2 zLt hz (j:=0) (by omega)).trans rfl),hc _ _ ((xB zIs 2 zLt hz (j:=1) (by omega)).trans rfl)⟩
def xu (z:zN):yM:=⟨z.m.id,z.m.tl,z.ta,z.tn,z.tc⟩
def jk (z:zN) (s:ShZ):zN:=match s.pv with
 | .slice o n c=> { z with m:= { z.m with pl:=s.pl },pa:=o,pn:=n,pc:=c }
 | _=>z
def shL (k:Nat) (zs:List zN) (L:List ShZ):List zN:=(List.zipWith jk zs L).take k++zs.drop k
theorem zAw {k:Nat} {zs:List zN} {L:List ShZ} (hl:L.length=zs.length):(shL k zs L).length=zs.length:=by
 simp [shL,List.length_zipWith,hl];omega
theorem zEc {k:Nat} {zs:List zN} {L:List ShZ} (hl:L.length=zs.length) (hk:k < zs.length):(shL k zs L)[k]?=zs[k]?:=by
 unfold shL;rw [List.getElem?_append_right (by rw [List.length_take,List.length_zipWith]; omega),List.length_take,List.length_zipWith,hl,Nat.min_self,Nat.min_eq_left (Nat.le_of_lt hk),Nat.sub_self,List.getElem?_drop,Nat.add_zero]
theorem zTy {k:Nat} {zs:List zN} {L:List ShZ} {z:zN} {s:ShZ} (hl:L.length=zs.length) (hz:zs[k]?=some z) (hs:L[k]?=some s):(shL k zs L).set k (jk z s)=shL (k+1) zs L:=by
 obtain ⟨hk,he⟩:=List.getElem?_eq_some_iff.1 hz;have hlen:((List.zipWith jk zs L).take k).length=k:=by rw [List.length_take,List.length_zipWith]; omega
 unfold shL;rw [List.set_append_right _ _ (by omega),hlen,Nat.sub_self,List.drop_eq_getElem_cons hk,List.set_cons_zero,List.take_add_one,List.getElem?_zipWith,hz,hs];simp
theorem zOo (zs:List zN) (L:List ShZ):shL 0 zs L=zs:=by simp [shL]
theorem zFy {k:Nat} {zs:List zN} {L:List ShZ} {y:zN} (h:y∈shL k zs L):y∈zs∨∃z s,z∈zs∧s∈L∧y=jk z s:=by
 rcases List.mem_append.1 h with h | h
 ·obtain ⟨i,hi⟩:=List.mem_iff_getElem?.1 (List.mem_of_mem_take h)
  rw [List.getElem?_zipWith] at hi;cases hz:zs[i]? with
  | none=>rw [hz] at hi; simp at hi
  | some z=>
   cases hs:L[i]? with
   | none=>rw [hz,hs] at hi; simp at hi
   | some s=>
    rw [hz,hs] at hi;exact .inr ⟨z,s,List.mem_of_getElem? hz,List.mem_of_getElem? hs,(by simpa using hi.symm)⟩
 ·exact .inl (List.mem_of_mem_drop h)
theorem jB.fr {B db:Nat} {sv shv:Value} {L:List ShZ} (h:jB w B db sv shv L) (hf:Fr S w w') (hS:∀i,B≤i→¬S i):jB w' B db sv shv L:=
 ⟨(hf.block _ (zA h.b) (hS _ h.lo)).trans h.b,zl h.row fun k hk=>hf.block k (zK h.row hk).2 (hS k (zK h.row hk).1),fun i z hz=>zl (h.ok i z hz) fun k hk=>hf.block k (zK (h.ok i z hz) hk).2 (hS k (zK (h.ok i z hz) hk).1),h.lo,h.x1,h.x2,h.x3,h.ap,h.sz⟩
theorem zu.wide {d:zj} (h:zu w d) (B:Nat) (hB:d.gb < B) (hB2:∀b,d.v.ownBlock=some b→b < B) (h0:0 < B):zu w { d with K:=fun i=>d.K i∨(B≤i∧i < w.heap.size) } :=
 ⟨h.b,h.rows,fun z hz=>⟨(h.ok z hz).1.mono fun b hb _=>.inl hb,(h.ok z hz).2.mono fun b hb _=>.inl hb⟩,h.pos,h.x1,fun e=>e.elim h.x2 fun e=>Nat.not_le.2 hB e.1,fun b hb e=>e.elim (h.x3 b hb) fun e=>Nat.not_le.2 (hB2 b hb) e.1,fun i hi=>hi.elim (h.lt i) fun hi=>⟨by omega,hi.2⟩⟩
def zLu (D:yC) (zs zs':List zN):Prop:=zs'.length=zs.length∧∀(i:Nat) (z:zN),zs[i]?=some z→∃(z':zN) (pl:List (ByteArray × Int)),zs'[i]?=some z'∧D[i]?=some pl∧z'.m= { z.m with pl:=pl } ∧z'.ta=z.ta∧z'.tn=z.tn∧z'.tc=z.tc
def zTz (rnd:Bool) (subs:List yM) (tops:List (ByteArray × Int)):yC:=if rnd then yj subs tops (-1) (subs.map fun _=>[]) else ya subs tops (subs.map fun _=>[])
def zEd (d:zj) (rnd:Bool) (tops:List (ByteArray × Int)) (w:World) (e:Ending) (w':World):Prop:=
 (¬zOf (d.F.zs.map xu) tops∧e=.returned (.int .i64 1)∧Fr (fun _=>False) w w')
 ∨(zOf (d.F.zs.map xu) tops∧e=.returned (.int .i64 0)∧∃(zs':List zN) (K':Nat→Prop),zLu (zTz rnd (d.F.zs.map xu) tops) d.F.zs zs'∧(∀z∈zs',z.m.pl.length≤1000∨z∈d.F.zs)∧zu w' ⟨d.gb,ji 3 0 { d.F with zs:=zs' },d.v,K'⟩∧(∀i,K' i→d.K i∨w.heap.size≤i)∧Fr d.W w w')
theorem zOp {d:zj} (h:zu w d) (hl:d.F.zs.length≤1000) (htl:∀z∈d.F.zs,z.m.tl.length≤1000) (tops:List (ByteArray × Int)) (tv:Value) (ht:jq w tv tops) (h2:tops.length≤1000) (htz:∀t∈tops,t.1.size≤150000000000000):
  Calls Tryz.prog 211 #[.pointer (some ⟨d.gb,0,none⟩),tv,.bool false] w (zEd d false tops w):=by
 have G:=zz h;obtain ⟨oa,cap,hv⟩:=id h.rows.slice;obtain ⟨ob2,cap2,rfl,-⟩:=id ht;have HV:=zz hv;have HT:=zz ht;have HTZ:=zz htz;have HTL:=zz htl;have dx:=fun j=>zB h.b j
 rw [hv] at dx;clear h hv ht htz htl;go_enter Tryz.func211,Tryz.ntmps211
 go_wp2_with fail
 go_loopw [7,21] (fun v i wr=>∃k:Nat,i=.int .i64 k∧k≤d.F.zs.length∧wr.ownsRow w.heap.size 314 2 v ((d.F.zs.map xu).take k).length (((d.F.zs.map xu).take k).flatMap zIs)∧Fr (fun _=>False) w wr) (fun _ i _=>d.F.zs.length - (intOf i).toNat)
 case atStart=>exact ⟨0,rfl,Nat.zero_le _,World.ownsRow_nil _ _ _ _,Fr.same _⟩
 case round=>
  obtain ⟨k,rfl,hk,ho,hf⟩:=hrel;have FF:=zz hf;have OW:=zz ho;obtain ⟨o7,c7,hv7,-,-⟩:=ze ho;rw [show ((d.F.zs.map xu).take k).length=k by rw [List.length_take,List.length_map]; omega] at hv7;subst hv7;clear ho hf;rcases Nat.lt_or_ge k d.F.zs.length with hlt | hge
  ·obtain ⟨z,hz⟩:=zH hlt
   obtain ⟨g,cap',hsl,hob,hat⟩:=(G.out.rows.old FF.out).at hz;rw [HV.out] at hsl;injection hsl with e1 e2 e3
   subst e1 e3;clear e2;obtain ⟨c0,c1,c2,c3,c4⟩:=hat;have fa:=(Fr.same wr).alloc (.cells #[.int .i64 z.m.id,.slice z.ta z.tn z.tc,.int .i64 z.m.un,.bool z.m.jo,.slice z.pa z.pn z.pc] 266);have ca:=fun j=>zD wr #[.int .i64 z.m.id,.slice z.ta z.tn z.tc,.int .i64 z.m.un,.bool z.m.jo,.slice z.pa z.pn z.pc] 266 j
   have fb:=fa.alloc (.cells #[.int .i64 z.m.id,.slice z.ta z.tn z.tc] 314);have hsz:(wr.alloc (.cells #[.int .i64 z.m.id,.slice z.ta z.tn z.tc,.int .i64 z.m.un,.bool z.m.jo,.slice z.pa z.pn z.pc] 266)).heap.size=wr.heap.size+1:=by simp
   have hcb:=fun j=>zD (wr.alloc (.cells #[.int .i64 z.m.id,.slice z.ta z.tn z.tc,.int .i64 z.m.un,.bool z.m.jo,.slice z.pa z.pn z.pc] 266)) #[.int .i64 z.m.id,.slice z.ta z.tn z.tc] 314 j
   rw [hsz] at hcb;have OB:=zz (zl OW.out fun j hj=>fb.block j (zK OW.out hj).2 fun h=>h);have FB:=zz (FF.out.tr fb);have HCB:=zz hcb;have HZ:=zz hz;clear hz hob fa fb hsz hcb;go_wp2_with (at_builtin; refine yI zIs 2 zLt (by decide) 316 314 _ 32 zTx rfl (by decide) Tryz.underlying316 _ rfl (.tmp 25) (.tmp 31) rfl w.heap.size (.slice o7 k c7) ((d.F.zs.map xu).take k) rfl OB.out (wr.heap.size+1) 1 rfl (xu z) HCB.out ?c1 ?c2 ?c3 ?_)
   case c1=>intro u hu; simp only [zIs,List.mem_cons,List.not_mem_nil,or_false] at hu; rcases hu with rfl | rfl <;> rfl
   case c2=>rw [List.length_take,List.length_map]; omega
   case c3=>exact FB.out.size
   rintro v' w2 ⟨ho,hg,hb⟩;have eL:(d.F.zs.map xu).take k++ [xu z]=(d.F.zs.map xu).take (k+1):=by rw [List.take_add_one,List.getElem?_map,HZ.out]; rfl
   have eL2:(d.F.zs.take k).map xu++ [xu z]=(d.F.zs.map xu).take (k+1):=by rw [List.map_take,eL]
   first | rw [eL] at ho | rw [eL2] at ho
   have O3:=zz ho;have F3:=zz (FB.out.grown hg fun j hj=>.inr (zK OB.out hj).1);clear ho hg hb eL eL2 c0 c1 c2 c3 c4 ca;go_wp2_with fail
   go_roundw
   case rel=>exact ⟨k+1,by go_num,by omega,O3.out,F3.out⟩
   case measure=>simp [intOf]; omega
  ·obtain rfl:k=d.F.zs.length:=by omega
   have ow:=OW.out;rw [List.take_of_length_le (show (d.F.zs.map xu).length≤d.F.zs.length by rw [List.length_map]; exact Nat.le_refl _)] at ow;have BY:=zz (zRo (d.F.zs.map xu) tops (.slice o7 d.F.zs.length c7) (.slice ob2 tops.length cap2) wr (zEy ow) (HT.out.old FF.out) (K:=d.K) (fun s hs=>by
     obtain ⟨z,hz,rfl⟩:=List.mem_map.1 hs;exact ((G.out.ok z hz).1).old FF.out) (fun s hs=>by
     obtain ⟨z,hz,rfl⟩:=List.mem_map.1 hs;exact HTL.out z hz) (by rw [List.length_map]; exact hl) h2 HTZ.out)
   clear ow;go_wp2_with fail
   refine BY.out.mono ?_;rintro e w4 hcase;rcases hcase with ⟨hp,rfl,f4⟩ | ⟨hp,db,sv,shv,L,rfl,hd,hids,hpl,hmx,f4⟩
   ·have HP:=zz hp
    have F4:=zz (FF.out.tr f4);clear hp f4 BY;go_wp2_with fail
    go_ret
    exact .inl ⟨HP.out,rfl,F4.out⟩
   ·have hLL:L.length=d.F.zs.length:=by
     have:=congrArg List.length hids
     simpa using this
    obtain ⟨os,cs,hsv,-,-⟩:=ze hd.row;rw [hLL] at hsv;subst hsv;have F4:=zz (FF.out.tr f4);have hwsz:=FF.out.size;have G4:=zz ((G.out.old F4.out).wide w.heap.size (zA G.out.b) (fun b hb=>(zK G.out.rows hb).2) (Nat.lt_of_le_of_lt (Nat.zero_le _) (zA G.out.b)));have D4:=zz (hd.base hwsz);have HP:=zz hp;have PLS:=zz hpl;have MX:=zz hmx;have K9:=zz (show ∀i,(fun i=>d.K i∨(w.heap.size≤i∧i < w4.heap.size)) i→d.K i∨w.heap.size≤i from fun i hi=>hi.imp id fun h=>h.1);obtain ⟨K4,hK4⟩:∃K4:Nat→Prop,K4=fun i=>d.K i∨(w.heap.size≤i∧i < w4.heap.size):=⟨_,rfl⟩
    rw [←hK4] at G4 K9;have SOK:=zz (show ∀s∈L,∃o n c,s.pv=.slice o n c∧xL K4 w4 s.pv s.pl from fun s hs=>by
     obtain ⟨i,hi⟩:=List.mem_iff_getElem?.1 hs;have r:=D4.out.ok i s hi;obtain ⟨o,c,hpv,-,-⟩:=ze r;refine ⟨o,_,c,hpv,(kM r rfl (D4.out.sz i s hi) (by have:=MX.out i s hi; unfold maxLen; omega)).mono fun b hb hlt=>?_⟩;rw [hK4];exact .inr ⟨hb.1,hlt⟩)
    clear hd hids hpl hmx hp f4 BY hK4 hwsz;go_wp2_with fail
    go_loopw [47] (fun i wr=>∃k:Nat,i=.int .i64 k∧k≤d.F.zs.length∧zu wr ⟨d.gb, { d.F with zs:=shL k d.F.zs L },d.v,K4⟩∧Fr (fun i=>d.v.ownBlock=some i) w4 wr) (fun i _=>d.F.zs.length - (intOf i).toNat)
    case atStart=>exact ⟨0,rfl,Nat.zero_le _,by rw [zOo]; exact G4.out,Fr.refl _ _⟩
    case round=>
     obtain ⟨k,rfl,hk,hg,hf⟩:=hrel;have GW:=zz hg;have FW:=zz hf;have dg:=(zB hg.b 6).trans (show _=some d.v from rfl);rw [HV.out] at dg;have DW:=zz (D4.out.fr hf fun i hi e=>by have:=(zK G.out.rows e).2; omega);clear hg hf;rcases Nat.lt_or_ge k d.F.zs.length with hlt | hge
     ·obtain ⟨z,hz⟩:=zH hlt
      obtain ⟨⟨sid,spl,spv⟩,hs⟩:=zH (l:=L) (k:=k) (by omega);obtain ⟨o9,n9,c9,hpv,hpr⟩:=SOK.out _ (List.mem_of_getElem? hs);dsimp only at hpv hpr;subst hpv;obtain ⟨os',cs',hsl,hcs⟩:=xz DW.out.row;rw [hLL] at hsl hcs;injection hsl with e1 _ e3
      subst e1 e3;obtain ⟨gs,rfl,-,-,hcs⟩:=hcs (by omega);have s0:=hcs _ _ ((xB shC 2 zHi hs (j:=0) (by omega)).trans (show _=some (Value.int .i64 sid) from rfl));have s1:=hcs _ _ ((xB shC 2 zHi hs (j:=1) (by omega)).trans (show _=some (Value.slice o9 n9 c9) from rfl));rw [Nat.add_zero] at s0;have fa:=(Fr.same wr).alloc (.cells #[.int .i64 sid,.slice o9 n9 c9] 344);have ca:=(zD wr #[.int .i64 sid,.slice o9 n9 c9] 344 1).trans (show _=some (Value.slice o9 n9 c9) from rfl);have GA:=zz (GW.out.old fa);have FA:=zz (zKi FW.out fa);have dga:=fa.cel dg;have HZ:=zz hz;have HS:=zz hs;have HPR:=zz hpr;clear hz hs hpr hcs fa;go_wp2_with fail
      generalize wr.alloc (.cells #[.int .i64 sid,.slice o9 n9 c9] 344)=wa at *;have y1:∀y:Lcl.InS (fun w'=>Fr (fun _=>False) wa w'),y.w.cell? ⟨d.gb,6,none⟩=some (.slice oa d.F.zs.length cap):=fun y=>y.h.cel dga
      have y2:∀y:Lcl.InS (fun w'=>Fr (fun _=>False) wa w'),y.w.cell? ⟨wr.heap.size,1,none⟩=some (.slice o9 n9 c9):=fun y=>y.h.cel ca
      have fd:Fr (fun _=>False) wa wa.drew:=(Fr.same wa).drew;have FD:=zz fd;clear fd;obtain ⟨b,cap',hsl,hob,hat⟩:=(GA.out.old FD.out).rows.at ((zEc hLL hlt).trans HZ.out);dsimp only at hsl hob;rw [HV.out,show (shL k d.F.zs L).length=d.F.zs.length from zAw hLL] at hsl;injection hsl with e1 e2 e3
      subst e1 e3;clear e2;have HOB:=zz hob;clear hob hat;refine Lcl.wp_region_calm (by kernel_rfl) [(true,[0,1,2,3,5,6]),(false,[4,7]),(true,[8,9])] #[0,1,3,7,15,0,0,64,255,511,1023] [0,1,2,3,4,5,6,7] 1 #[true,true,true,true,true,true,true,true,true,true,false] (by kernel_rfl) (by kernel_rfl) (by kernel_rfl) (fun w'=>Fr (fun _=>False) wa w') (Fr.same wa).drew (fun d c a v w h=>by cases d <;> exact h) ?_;simp only [Lcl.opsOf,List.map_cons,List.map_nil,List.getElem?_toArray,List.getElem?_cons_succ,List.getElem?_cons_zero,Option.getD_some];refine Lcl.wpCalm_t ?_
      repeat (go_big_quiet_step (rfl))
      refine wpQuiet_nil ?_;refine Lcl.wpCalm_f ?_
      repeat (go_big_quiet_step (rfl))
      refine wpQuiet_nil ?_;refine Lcl.wpCalm_t ?_
      repeat (go_big_quiet_step (rfl))
      refine wpQuiet_nil ?_;refine Lcl.wpCalm_nil ?_;clear y1 y2 dga dg ca s0 s1;generalize wa.drew=wd at *;have GD:=zz (GA.out.old FD.out);have R0:=GD.out.rows;dsimp only at R0;obtain ⟨b',-,-,hob',hat⟩:=R0.at ((zEc hLL hlt).trans HZ.out);obtain rfl:b'=b:=Option.some.inj (hob'.symm.trans HOB.out);have c4:=hat.c4;have z4:=(R0.there HOB.out (j:=k * 5+4) (by rw [zAw hLL]; omega)).2;have R2:=R0.set HOB.out (k:=k) (j:=4) (u:=.slice o9 n9 c9) (z':=jk z ⟨sid,spl,.slice o9 n9 c9⟩) ((zEc hLL hlt).trans HZ.out) (by omega) rfl;rw [zTy hLL HZ.out HS.out] at R2;have fs:Fr (fun i=>d.v.ownBlock=some i) wd (wd.setCell ⟨b',k * 5+4,none⟩ (.slice o9 n9 c9)):=(Fr.refl (fun i=>d.v.ownBlock=some i) wd).setCell (p:=⟨b',k * 5+4,none⟩) (.inl HOB.out) _;have fw:=(zKi FA.out FD.out).trans fs fun i e=>.inl e
      have GN:=zz (GD.out.row fs (shL (k+1) d.F.zs L) R2 fun y hy=>by
       rcases zFy hy with hy | ⟨z1,s1,hz1,hs1,rfl⟩
       ·exact (G4.out.ok y hy).fr fw fun i hi e=>G4.out.x3 i e hi
       ·obtain ⟨o1,n1,c1,hp1,hr1⟩:=SOK.out s1 hs1
        have h9:=(G4.out.ok z1 hz1).fr fw fun i hi e=>G4.out.x3 i e hi
        have h8:=hr1.fr fw fun i hi e=>G4.out.x3 i e hi
        unfold jk;rw [hp1] at h8 ⊢;exact ⟨h9.1,h8⟩)
      have FN:=zz fw;clear hat hob' R0 R2 fs fw;refine Lcl.wpG_run [10] _ _ _ (by kernel_rfl) ?_;simp only [List.map_cons,List.map_nil,List.getElem?_toArray,List.getElem?_cons_succ,List.getElem?_cons_zero,Option.getD_some];go_wp2_with fail
      go_roundw
      case rel=>exact ⟨k+1,by go_num,by omega,GN.out,FN.out⟩
      case measure=>simp [intOf]; omega
     ·obtain rfl:k=d.F.zs.length:=by omega
      have EW:=zz (jx GW.out 3 0);dsimp only at EW;go_wp2_with fail
      refine EW.out.mono ?_;rintro e w6 ⟨rfl,g6,f6⟩;have G6:=zz g6;have F6:=zz f6;clear g6 f6 EW;go_wp2_with fail
      go_ret
      refine .inr ⟨HP.out,rfl,shL d.F.zs.length d.F.zs L,K4,⟨zAw hLL,fun i z hz=>?_⟩,fun z hz=>?_,G6.out,K9.out,((F4.out.mono (S':=d.W) fun i e=>e.elim).trans FW.out fun i e=>.inl (.inr e)).trans F6.out fun i e=>.inl (.inl e)⟩
      ·have hi:=(List.getElem?_eq_some_iff.1 hz).1
       obtain ⟨s,hs⟩:=zH (l:=L) (k:=i) (by omega);obtain ⟨o1,n1,c1,hp1,-⟩:=SOK.out s (List.mem_of_getElem? hs);refine ⟨jk z s,s.pl,?_,?_,?_⟩
       ·unfold shL
        rw [List.getElem?_append_left (by rw [List.length_take,List.length_zipWith]; omega),List.getElem?_take_of_lt hi,List.getElem?_zipWith,hz,hs]
       ·have:=PLS.out
        unfold zTz;simp only [Bool.false_eq_true,if_false,if_true];rw [←this];unfold ym;rw [List.getElem?_map,hs];rfl
       ·unfold jk
        rw [hp1];exact ⟨rfl,rfl,rfl,rfl⟩
      ·rcases zFy hz with hz | ⟨z1,s1,hz1,hs1,rfl⟩
       ·exact .inr hz
       ·obtain ⟨i,hi⟩:=List.mem_iff_getElem?.1 hs1
        obtain ⟨o1,n1,c1,hp1,-⟩:=SOK.out s1 hs1;unfold jk;rw [hp1];exact .inl (MX.out i s1 hi)
theorem zRq {d:zj} (h:zu w d) (hl:d.F.zs.length≤1000) (htl:∀z∈d.F.zs,z.m.tl.length≤1000) (tops:List (ByteArray × Int)) (tv:Value) (ht:jq w tv tops) (h2:tops.length≤1000) (htz:∀t∈tops,t.1.size≤150000000000000):
  Calls Tryz.prog 211 #[.pointer (some ⟨d.gb,0,none⟩),tv,.bool true] w (zEd d true tops w):=by
 have G:=zz h;obtain ⟨oa,cap,hv⟩:=id h.rows.slice;obtain ⟨ob2,cap2,rfl,-⟩:=id ht;have HV:=zz hv;have HT:=zz ht;have HTZ:=zz htz;have HTL:=zz htl;have dx:=fun j=>zB h.b j
 rw [hv] at dx;clear h hv ht htz htl;go_enter Tryz.func211,Tryz.ntmps211
 go_wp2_with fail
 go_loopw [7,21] (fun v i wr=>∃k:Nat,i=.int .i64 k∧k≤d.F.zs.length∧wr.ownsRow w.heap.size 314 2 v ((d.F.zs.map xu).take k).length (((d.F.zs.map xu).take k).flatMap zIs)∧Fr (fun _=>False) w wr) (fun _ i _=>d.F.zs.length - (intOf i).toNat)
 case atStart=>exact ⟨0,rfl,Nat.zero_le _,World.ownsRow_nil _ _ _ _,Fr.same _⟩
 case round=>
  obtain ⟨k,rfl,hk,ho,hf⟩:=hrel;have FF:=zz hf;have OW:=zz ho;obtain ⟨o7,c7,hv7,-,-⟩:=ze ho;rw [show ((d.F.zs.map xu).take k).length=k by rw [List.length_take,List.length_map]; omega] at hv7;subst hv7;clear ho hf;rcases Nat.lt_or_ge k d.F.zs.length with hlt | hge
  ·obtain ⟨z,hz⟩:=zH hlt
   obtain ⟨g,cap',hsl,hob,hat⟩:=(G.out.rows.old FF.out).at hz;rw [HV.out] at hsl;injection hsl with e1 e2 e3
   subst e1 e3;clear e2;obtain ⟨c0,c1,c2,c3,c4⟩:=hat;have fa:=(Fr.same wr).alloc (.cells #[.int .i64 z.m.id,.slice z.ta z.tn z.tc,.int .i64 z.m.un,.bool z.m.jo,.slice z.pa z.pn z.pc] 266);have ca:=fun j=>zD wr #[.int .i64 z.m.id,.slice z.ta z.tn z.tc,.int .i64 z.m.un,.bool z.m.jo,.slice z.pa z.pn z.pc] 266 j
   have fb:=fa.alloc (.cells #[.int .i64 z.m.id,.slice z.ta z.tn z.tc] 314);have hsz:(wr.alloc (.cells #[.int .i64 z.m.id,.slice z.ta z.tn z.tc,.int .i64 z.m.un,.bool z.m.jo,.slice z.pa z.pn z.pc] 266)).heap.size=wr.heap.size+1:=by simp
   have hcb:=fun j=>zD (wr.alloc (.cells #[.int .i64 z.m.id,.slice z.ta z.tn z.tc,.int .i64 z.m.un,.bool z.m.jo,.slice z.pa z.pn z.pc] 266)) #[.int .i64 z.m.id,.slice z.ta z.tn z.tc] 314 j
   rw [hsz] at hcb;have OB:=zz (zl OW.out fun j hj=>fb.block j (zK OW.out hj).2 fun h=>h);have FB:=zz (FF.out.tr fb);have HCB:=zz hcb;have HZ:=zz hz;clear hz hob fa fb hsz hcb;go_wp2_with (at_builtin; refine yI zIs 2 zLt (by decide) 316 314 _ 32 zTx rfl (by decide) Tryz.underlying316 _ rfl (.tmp 25) (.tmp 31) rfl w.heap.size (.slice o7 k c7) ((d.F.zs.map xu).take k) rfl OB.out (wr.heap.size+1) 1 rfl (xu z) HCB.out ?c1 ?c2 ?c3 ?_)
   case c1=>intro u hu; simp only [zIs,List.mem_cons,List.not_mem_nil,or_false] at hu; rcases hu with rfl | rfl <;> rfl
   case c2=>rw [List.length_take,List.length_map]; omega
   case c3=>exact FB.out.size
   rintro v' w2 ⟨ho,hg,hb⟩;have eL:(d.F.zs.map xu).take k++ [xu z]=(d.F.zs.map xu).take (k+1):=by rw [List.take_add_one,List.getElem?_map,HZ.out]; rfl
   have eL2:(d.F.zs.take k).map xu++ [xu z]=(d.F.zs.map xu).take (k+1):=by rw [List.map_take,eL]
   first | rw [eL] at ho | rw [eL2] at ho
   have O3:=zz ho;have F3:=zz (FB.out.grown hg fun j hj=>.inr (zK OB.out hj).1);clear ho hg hb eL eL2 c0 c1 c2 c3 c4 ca;go_wp2_with fail
   go_roundw
   case rel=>exact ⟨k+1,by go_num,by omega,O3.out,F3.out⟩
   case measure=>simp [intOf]; omega
  ·obtain rfl:k=d.F.zs.length:=by omega
   have ow:=OW.out;rw [List.take_of_length_le (show (d.F.zs.map xu).length≤d.F.zs.length by rw [List.length_map]; exact Nat.le_refl _)] at ow;have BY:=zz (zRp (d.F.zs.map xu) tops (.slice o7 d.F.zs.length c7) (.slice ob2 tops.length cap2) wr (zEy ow) (HT.out.old FF.out) (K:=d.K) (fun s hs=>by
     obtain ⟨z,hz,rfl⟩:=List.mem_map.1 hs;exact ((G.out.ok z hz).1).old FF.out) (fun s hs=>by
     obtain ⟨z,hz,rfl⟩:=List.mem_map.1 hs;exact HTL.out z hz) (by rw [List.length_map]; exact hl) h2 HTZ.out)
   clear ow;go_wp2_with fail
   refine BY.out.mono ?_;rintro e w4 hcase;rcases hcase with ⟨hp,rfl,f4⟩ | ⟨hp,db,sv,shv,L,rfl,hd,hids,hpl,hmx,f4⟩
   ·have HP:=zz hp
    have F4:=zz (FF.out.tr f4);clear hp f4 BY;go_wp2_with fail
    go_ret
    exact .inl ⟨HP.out,rfl,F4.out⟩
   ·have hLL:L.length=d.F.zs.length:=by
     have:=congrArg List.length hids
     simpa using this
    obtain ⟨os,cs,hsv,-,-⟩:=ze hd.row;rw [hLL] at hsv;subst hsv;have F4:=zz (FF.out.tr f4);have hwsz:=FF.out.size;have G4:=zz ((G.out.old F4.out).wide w.heap.size (zA G.out.b) (fun b hb=>(zK G.out.rows hb).2) (Nat.lt_of_le_of_lt (Nat.zero_le _) (zA G.out.b)));have D4:=zz (hd.base hwsz);have HP:=zz hp;have PLS:=zz hpl;have MX:=zz hmx;have K9:=zz (show ∀i,(fun i=>d.K i∨(w.heap.size≤i∧i < w4.heap.size)) i→d.K i∨w.heap.size≤i from fun i hi=>hi.imp id fun h=>h.1);obtain ⟨K4,hK4⟩:∃K4:Nat→Prop,K4=fun i=>d.K i∨(w.heap.size≤i∧i < w4.heap.size):=⟨_,rfl⟩
    rw [←hK4] at G4 K9;have SOK:=zz (show ∀s∈L,∃o n c,s.pv=.slice o n c∧xL K4 w4 s.pv s.pl from fun s hs=>by
     obtain ⟨i,hi⟩:=List.mem_iff_getElem?.1 hs;have r:=D4.out.ok i s hi;obtain ⟨o,c,hpv,-,-⟩:=ze r;refine ⟨o,_,c,hpv,(kM r rfl (D4.out.sz i s hi) (by have:=MX.out i s hi; unfold maxLen; omega)).mono fun b hb hlt=>?_⟩;rw [hK4];exact .inr ⟨hb.1,hlt⟩)
    clear hd hids hpl hmx hp f4 BY hK4 hwsz;go_wp2_with fail
    go_loopw [47] (fun i wr=>∃k:Nat,i=.int .i64 k∧k≤d.F.zs.length∧zu wr ⟨d.gb, { d.F with zs:=shL k d.F.zs L },d.v,K4⟩∧Fr (fun i=>d.v.ownBlock=some i) w4 wr) (fun i _=>d.F.zs.length - (intOf i).toNat)
    case atStart=>exact ⟨0,rfl,Nat.zero_le _,by rw [zOo]; exact G4.out,Fr.refl _ _⟩
    case round=>
     obtain ⟨k,rfl,hk,hg,hf⟩:=hrel;have GW:=zz hg;have FW:=zz hf;have dg:=(zB hg.b 6).trans (show _=some d.v from rfl);rw [HV.out] at dg;have DW:=zz (D4.out.fr hf fun i hi e=>by have:=(zK G.out.rows e).2; omega);clear hg hf;rcases Nat.lt_or_ge k d.F.zs.length with hlt | hge
     ·obtain ⟨z,hz⟩:=zH hlt
      obtain ⟨⟨sid,spl,spv⟩,hs⟩:=zH (l:=L) (k:=k) (by omega);obtain ⟨o9,n9,c9,hpv,hpr⟩:=SOK.out _ (List.mem_of_getElem? hs);dsimp only at hpv hpr;subst hpv;obtain ⟨os',cs',hsl,hcs⟩:=xz DW.out.row;rw [hLL] at hsl hcs;injection hsl with e1 _ e3
      subst e1 e3;obtain ⟨gs,rfl,-,-,hcs⟩:=hcs (by omega);have s0:=hcs _ _ ((xB shC 2 zHi hs (j:=0) (by omega)).trans (show _=some (Value.int .i64 sid) from rfl));have s1:=hcs _ _ ((xB shC 2 zHi hs (j:=1) (by omega)).trans (show _=some (Value.slice o9 n9 c9) from rfl));rw [Nat.add_zero] at s0;have fa:=(Fr.same wr).alloc (.cells #[.int .i64 sid,.slice o9 n9 c9] 344);have ca:=(zD wr #[.int .i64 sid,.slice o9 n9 c9] 344 1).trans (show _=some (Value.slice o9 n9 c9) from rfl);have GA:=zz (GW.out.old fa);have FA:=zz (zKi FW.out fa);have dga:=fa.cel dg;have HZ:=zz hz;have HS:=zz hs;have HPR:=zz hpr;clear hz hs hpr hcs fa;go_wp2_with fail
      generalize wr.alloc (.cells #[.int .i64 sid,.slice o9 n9 c9] 344)=wa at *;have y1:∀y:Lcl.InS (fun w'=>Fr (fun _=>False) wa w'),y.w.cell? ⟨d.gb,6,none⟩=some (.slice oa d.F.zs.length cap):=fun y=>y.h.cel dga
      have y2:∀y:Lcl.InS (fun w'=>Fr (fun _=>False) wa w'),y.w.cell? ⟨wr.heap.size,1,none⟩=some (.slice o9 n9 c9):=fun y=>y.h.cel ca
      have fd:Fr (fun _=>False) wa wa.drew:=(Fr.same wa).drew;have FD:=zz fd;clear fd;obtain ⟨b,cap',hsl,hob,hat⟩:=(GA.out.old FD.out).rows.at ((zEc hLL hlt).trans HZ.out);dsimp only at hsl hob;rw [HV.out,show (shL k d.F.zs L).length=d.F.zs.length from zAw hLL] at hsl;injection hsl with e1 e2 e3
      subst e1 e3;clear e2;have HOB:=zz hob;clear hob hat;refine Lcl.wp_region_calm (by kernel_rfl) [(true,[0,1,2,3,5,6]),(false,[4,7]),(true,[8,9])] #[0,1,3,7,15,0,0,64,255,511,1023] [0,1,2,3,4,5,6,7] 1 #[true,true,true,true,true,true,true,true,true,true,false] (by kernel_rfl) (by kernel_rfl) (by kernel_rfl) (fun w'=>Fr (fun _=>False) wa w') (Fr.same wa).drew (fun d c a v w h=>by cases d <;> exact h) ?_;simp only [Lcl.opsOf,List.map_cons,List.map_nil,List.getElem?_toArray,List.getElem?_cons_succ,List.getElem?_cons_zero,Option.getD_some];refine Lcl.wpCalm_t ?_
      repeat (go_big_quiet_step (rfl))
      refine wpQuiet_nil ?_;refine Lcl.wpCalm_f ?_
      repeat (go_big_quiet_step (rfl))
      refine wpQuiet_nil ?_;refine Lcl.wpCalm_t ?_
      repeat (go_big_quiet_step (rfl))
      refine wpQuiet_nil ?_;refine Lcl.wpCalm_nil ?_;clear y1 y2 dga dg ca s0 s1;generalize wa.drew=wd at *;have GD:=zz (GA.out.old FD.out);have R0:=GD.out.rows;dsimp only at R0;obtain ⟨b',-,-,hob',hat⟩:=R0.at ((zEc hLL hlt).trans HZ.out);obtain rfl:b'=b:=Option.some.inj (hob'.symm.trans HOB.out);have c4:=hat.c4;have z4:=(R0.there HOB.out (j:=k * 5+4) (by rw [zAw hLL]; omega)).2;have R2:=R0.set HOB.out (k:=k) (j:=4) (u:=.slice o9 n9 c9) (z':=jk z ⟨sid,spl,.slice o9 n9 c9⟩) ((zEc hLL hlt).trans HZ.out) (by omega) rfl;rw [zTy hLL HZ.out HS.out] at R2;have fs:Fr (fun i=>d.v.ownBlock=some i) wd (wd.setCell ⟨b',k * 5+4,none⟩ (.slice o9 n9 c9)):=(Fr.refl (fun i=>d.v.ownBlock=some i) wd).setCell (p:=⟨b',k * 5+4,none⟩) (.inl HOB.out) _;have fw:=(zKi FA.out FD.out).trans fs fun i e=>.inl e
      have GN:=zz (GD.out.row fs (shL (k+1) d.F.zs L) R2 fun y hy=>by
       rcases zFy hy with hy | ⟨z1,s1,hz1,hs1,rfl⟩
       ·exact (G4.out.ok y hy).fr fw fun i hi e=>G4.out.x3 i e hi
       ·obtain ⟨o1,n1,c1,hp1,hr1⟩:=SOK.out s1 hs1
        have h9:=(G4.out.ok z1 hz1).fr fw fun i hi e=>G4.out.x3 i e hi
        have h8:=hr1.fr fw fun i hi e=>G4.out.x3 i e hi
        unfold jk;rw [hp1] at h8 ⊢;exact ⟨h9.1,h8⟩)
      have FN:=zz fw;clear hat hob' R0 R2 fs fw;refine Lcl.wpG_run [10] _ _ _ (by kernel_rfl) ?_;simp only [List.map_cons,List.map_nil,List.getElem?_toArray,List.getElem?_cons_succ,List.getElem?_cons_zero,Option.getD_some];go_wp2_with fail
      go_roundw
      case rel=>exact ⟨k+1,by go_num,by omega,GN.out,FN.out⟩
      case measure=>simp [intOf]; omega
     ·obtain rfl:k=d.F.zs.length:=by omega
      have EW:=zz (jx GW.out 3 0);dsimp only at EW;go_wp2_with fail
      refine EW.out.mono ?_;rintro e w6 ⟨rfl,g6,f6⟩;have G6:=zz g6;have F6:=zz f6;clear g6 f6 EW;go_wp2_with fail
      go_ret
      refine .inr ⟨HP.out,rfl,shL d.F.zs.length d.F.zs L,K4,⟨zAw hLL,fun i z hz=>?_⟩,fun z hz=>?_,G6.out,K9.out,((F4.out.mono (S':=d.W) fun i e=>e.elim).trans FW.out fun i e=>.inl (.inr e)).trans F6.out fun i e=>.inl (.inl e)⟩
      ·have hi:=(List.getElem?_eq_some_iff.1 hz).1
       obtain ⟨s,hs⟩:=zH (l:=L) (k:=i) (by omega);obtain ⟨o1,n1,c1,hp1,-⟩:=SOK.out s (List.mem_of_getElem? hs);refine ⟨jk z s,s.pl,?_,?_,?_⟩
       ·unfold shL
        rw [List.getElem?_append_left (by rw [List.length_take,List.length_zipWith]; omega),List.getElem?_take_of_lt hi,List.getElem?_zipWith,hz,hs]
       ·have:=PLS.out
        unfold zTz;simp only [Bool.false_eq_true,if_false,if_true];rw [←this];unfold ym;rw [List.getElem?_map,hs];rfl
       ·unfold jk
        rw [hp1];exact ⟨rfl,rfl,rfl,rfl⟩
      ·rcases zFy hz with hz | ⟨z1,s1,hz1,hs1,rfl⟩
       ·exact .inr hz
       ·obtain ⟨i,hi⟩:=List.mem_iff_getElem?.1 hs1
        obtain ⟨o1,n1,c1,hp1,-⟩:=SOK.out s1 hs1;unfold jk;rw [hp1];exact .inl (MX.out i s1 hi)
end
end Go.Proofs.YtfdhofabgdkkkaaGreatDoor
