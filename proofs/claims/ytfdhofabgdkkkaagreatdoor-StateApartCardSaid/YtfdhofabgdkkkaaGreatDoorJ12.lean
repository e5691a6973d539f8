/- A part of the proof that what the machine is told keeps its bounds. -/
import Derived.Test.YtfdhofabgdkkkaaGreatDoorJ11
set_option maxHeartbeats 128000000
set_option maxRecDepth 100000
namespace Go.Proofs.YtfdhofabgdkkkaaGreatDoor
open Lib renaming hid→zz
open Go.RowKit Go.Fm Go.BigFrame Go.Shelf Go.Maps
set_option linter.unusedVariables false
set_option linter.unusedSimpArgs false
section
variable {w w':World} {pb mb:Nat} {S:Nat→Prop}
theorem zQi {L:List (Int × Hrd)} {k:Int} {x:Hrd} {i:Nat} (h:zCj pb mb ((k,x)::L.filter fun r=>r.1≠k) i):zCj pb mb L i∨i=x.hb:=by
 rcases h with h | h | ⟨y,hy,e⟩
 ·exact .inl (.inl h)
 ·exact .inl (.inr (.inl h))
 ·rcases List.mem_cons.1 hy with rfl | hy
  ·exact .inr e
  ·exact .inl (.inr (.inr ⟨y,(List.mem_filter.1 hy).1,e⟩))
theorem zVq {L:List (Int × Hrd)} {k:Int} {x:Hrd} {i:Nat} (h:zCj pb mb (zFl L k x) i):zCj pb mb L i∨i=x.hb:=by
 rcases h with h | h | ⟨y,hy,e⟩
 ·exact .inl (.inl h)
 ·exact .inl (.inr (.inl h))
 ·unfold zFl at hy
  obtain ⟨z,hz,rfl⟩:=List.mem_map.1 hy;by_cases e2:z.1=k
  ·rw [if_pos e2] at e; exact .inr e
  ·rw [if_neg e2] at e; exact .inl (.inr (.inr ⟨z,hz,e⟩))
theorem zNf {L:List (Int × Hrd)} {k:Int} {x:Hrd} {n:Nat} {F:ur} {s:zDs} {e:Ending} (h:yl w pb mb L) (hR:∀y∈L,ju y.2.r y.2.f) (hS:∀i,zCj pb mb L i→S i) (hF:∀k,F k=(yV L k).map zVm) (hn:L.length≤n)
  (hk:yV L k=some x) (hp:zTf w x.hb x.ep (uq x.r x.f x.c) s e w'):e=.returned (.tuple #[])∧je w' pb S n (zDu F k (x.ep,zCk (uq x.r x.f x.c) s))∧Fr S w w':=by
 obtain ⟨rfl,⟨r',f',c',hh,hr,hw⟩,hf⟩:=hp;have hm:=ui hk;refine ⟨rfl,⟨mb,_,h.turn hk hf hh,?_,?_,?_,?_⟩,hf.mono fun i e=>.inl (hS i (.inr (.inr ⟨_,hm,e⟩)))⟩
 ·intro y hy
  unfold zFl at hy;obtain ⟨z,hz,rfl⟩:=List.mem_map.1 hy;by_cases e2:z.1=k
  ·rw [if_pos e2]; exact hr
  ·rw [if_neg e2]; exact hR z hz
 ·intro i hi
  rcases zVq hi with h1 | h1
  ·exact hS i h1
  ·exact hS i (.inr (.inr ⟨_,hm,h1⟩))
 ·intro i
  unfold zDu;rw [zVn hk];by_cases e2:i=k
  ·rw [if_pos e2,if_pos e2,←hw]; rfl
  ·rw [if_neg e2,if_neg e2]; exact hF i
 ·unfold zFl; rw [List.length_map]; exact hn
theorem zQj {n:Nat} {F:ur} (h:je w pb S n F) (hn:n < 100000) (b:Bat) (oa:Option Addr) (m cap:Nat):Calls Tryz.prog 78 #[.pointer (some ⟨pb,0,none⟩),yP b (.slice oa m cap)] w (NotePost w pb S n (vh F b)):=by
 obtain ⟨mb,L,hA,hR,hS,hF,hL⟩:=h;have H:=zz hA;have HR:=zz hR;have HS:=zz hS;have HF:=zz hF;clear hA hR hS hF;have fa:=(Fr.same w).alloc (.cells #[.int .i64 b.base,.int .i64 b.span,.int .i64 b.prod,.int .i64 b.epoch,.int .i64 b.seq,.slice oa m cap] 35);have xa:=zC w (.cells #[.int .i64 b.base,.int .i64 b.span,.int .i64 b.prod,.int .i64 b.epoch,.int .i64 b.seq,.slice oa m cap] 35);have FA:=zz fa;have XA:=zz xa;have HM:=zz (zJb b oa m cap (w.alloc (.cells #[.int .i64 b.base,.int .i64 b.span,.int .i64 b.prod,.int .i64 b.epoch,.int .i64 b.seq,.slice oa m cap] 35)));unfold yP at HM ⊢;clear fa xa;by_cases hmay:zQe b
 ·have MAY:=zz hmay
  clear hmay;go_enter Tryz.func78,Tryz.ntmps78
  go_wp2_with fail
  generalize (w.alloc (.cells #[.int .i64 b.base,.int .i64 b.span,.int .i64 b.prod,.int .i64 b.epoch,.int .i64 b.seq,.slice oa m cap] 35))=W at *;refine HM.out.mono ?_;rintro e w2 ⟨c,rfl,hc,hf2⟩;obtain rfl:c=true:=hc.2 MAY.out;have F2:=zz (FA.out.tr hf2);have X2:=zz ((hf2.block _ (zA XA.out) fun h=>h).trans XA.out);have c2:w2.cell? ⟨w.heap.size,2,none⟩=some (.int .i64 b.prod):=(zB X2.out 2).trans rfl;have HOF:=zz (zMz (H.out.old F2.out) b.prod (by have h9:0≤b.prod∧b.prod≤1073741824:=MAY.out.1; simp [Lit.wf,IntKind.min,IntKind.max,IntKind.signed,IntKind.bits]; omega));clear hf2 HM hc;go_wp2_with fail
  refine HOF.out.mono ?_;rintro e w3 hp;have HB:∃hb ep r f c,e=.returned (.pointer (some ⟨hb,0,none⟩))∧xc w3 hb ep r f c∧Fr (fun _=>False) w2 w3∧((∃x,yV L b.prod=some x∧x=⟨hb,ep,r,f,c⟩)∨(yV L b.prod=none∧ep= -1)):=by
   rcases hp with ⟨x,hx,rfl,hf⟩ | ⟨hn,hb,-,rfl,hh,hf⟩
   ·exact ⟨x.hb,x.ep,x.r,x.f,x.c,rfl,(H.out.el _ (ui hx)).1.old (F2.out.tr hf),hf,.inl ⟨x,hx,rfl⟩⟩
   ·exact ⟨hb,-1,xP,0,0,rfl,hh,hf,.inr ⟨hn,rfl⟩⟩
  obtain ⟨hb,ep,r,f,c,rfl,hh,hf3,hcase⟩:=HB;have CASE:=zz hcase;have F3:=zz (F2.out.tr hf3);have X3:=zz ((hf3.block _ (zA X2.out) fun h=>h).trans X2.out);have HH:=zz hh;clear hp hh hf3 HOF c2 hcase X2 F2;have z0:∀y:Lcl.InS (fun w'=>Fr (fun _=>False) w3 w'),y.w.cell? ⟨w.heap.size,3,none⟩=some (.int .i64 b.epoch):=fun y=>y.h.cel ((zB X3.out 3).trans rfl)
  have z1:∀y:Lcl.InS (fun w'=>Fr (fun _=>False) w3 w'),y.w.cell? ⟨hb,0,none⟩=some (.int .i64 ep):=fun y=>y.h.cel HH.out.epoch
  go_wp2_with fail
  refine Lcl.wp_region_calm (by kernel_rfl) [(true,[0,2,3,4]),(false,[1,5]),(true,[6])] #[0,1,0,4,12,28,63] [0,1,2,3,4,5] 0 #[true,true,true,true,true,true,true] (by kernel_rfl) (by kernel_rfl) (by kernel_rfl) (fun w'=>Fr (fun _=>False) w3 w') (Fr.same w3).drew (fun d c a v w h=>by cases d <;> exact h) ?_;simp only [Lcl.opsOf,List.map_cons,List.map_nil,List.getElem?_toArray,List.getElem?_cons_succ,List.getElem?_cons_zero,Option.getD_some];refine Lcl.wpCalm_t ?_;repeat (go_big_quiet_step (rfl))
  refine wpQuiet_nil ?_;refine Lcl.wpCalm_f ?_;repeat (go_big_quiet_step (rfl))
  refine wpQuiet_nil ?_;refine Lcl.wpCalm_t ?_;repeat (go_big_quiet_step (rfl))
  refine wpQuiet_nil ?_;refine Lcl.wpCalm_nil ?_;refine Lcl.wpG_run [] _ _ _ (by kernel_rfl) ?_;simp only [List.map_cons,List.map_nil,List.getElem?_toArray,List.getElem?_cons_succ,List.getElem?_cons_zero,Option.getD_some];clear z0 z1;have F4:=zz F3.out.drew;have H4:=zz (HH.out.old (Fr.same w3).drew);have X4:=zz (((Fr.same w3).drew.block _ (zA X3.out) fun h=>h).trans X3.out);clear X3 HH F3;generalize w3.drew=w4 at *;by_cases he:b.epoch < ep
  ·have HN:vh F b=F:=by
    unfold vh;rw [if_pos MAY.out,HF.out];rcases CASE.out with ⟨x,hx,rfl⟩ | ⟨hx,e⟩
    ·rw [hx]; simp only [Option.map,zVm]; rw [if_pos he]
    ·exfalso; have:=MAY.out.2.1.1; omega
   have HN:=zz HN;go_wp2_with fail
   go_end0
   rw [HN.out];exact ⟨rfl,⟨mb,L,H.out.old F4.out,HR.out,fun i hi=>.inl (HS.out i hi),HF.out,by omega⟩,F4.out.mono fun _ h=>h.elim⟩
  ·have HE:=zz he
   have z0:∀y:Lcl.InS (fun w'=>Fr (fun _=>False) w4 w'),y.w.cell? ⟨w.heap.size,3,none⟩=some (.int .i64 b.epoch):=fun y=>y.h.cel ((zB X4.out 3).trans rfl)
   have z1:∀y:Lcl.InS (fun w'=>Fr (fun _=>False) w4 w'),y.w.cell? ⟨hb,0,none⟩=some (.int .i64 ep):=fun y=>y.h.cel H4.out.epoch
   go_wp2_with fail
   refine Lcl.wp_region_calm (by kernel_rfl) [(true,[0,2,3,4]),(false,[1,5]),(true,[6])] #[0,1,0,4,12,28,63] [0,1,2,3,4,5] 0 #[true,true,true,true,true,true,true] (by kernel_rfl) (by kernel_rfl) (by kernel_rfl) (fun w'=>Fr (fun _=>False) w4 w') (Fr.same w4).drew (fun d c a v w h=>by cases d <;> exact h) ?_;simp only [Lcl.opsOf,List.map_cons,List.map_nil,List.getElem?_toArray,List.getElem?_cons_succ,List.getElem?_cons_zero,Option.getD_some];refine Lcl.wpCalm_t ?_;repeat (go_big_quiet_step (rfl))
   refine wpQuiet_nil ?_;refine Lcl.wpCalm_f ?_;repeat (go_big_quiet_step (rfl))
   refine wpQuiet_nil ?_;refine Lcl.wpCalm_t ?_;repeat (go_big_quiet_step (rfl))
   refine wpQuiet_nil ?_;refine Lcl.wpCalm_nil ?_;refine Lcl.wpG_run [] _ _ _ (by kernel_rfl) ?_;simp only [List.map_cons,List.map_nil,List.getElem?_toArray,List.getElem?_cons_succ,List.getElem?_cons_zero,Option.getD_some];clear z0 z1;have F5:=zz F4.out.drew;have H5:=zz (H4.out.old (Fr.same w4).drew);have X5:=zz (((Fr.same w4).drew.block _ (zA X4.out) fun h=>h).trans X4.out);clear X4 H4 F4;generalize w4.drew=w5 at *;have d1:w5.cell? ⟨w.heap.size,4,none⟩=some (.int .i64 b.seq):=(zB X5.out 4).trans rfl;have d2:w5.cell? ⟨w.heap.size,0,none⟩=some (.int .i64 b.base):=(zB X5.out 0).trans rfl;have d3:w5.cell? ⟨w.heap.size,1,none⟩=some (.int .i64 b.span):=(zB X5.out 1).trans rfl;have d4:w5.cell? ⟨w.heap.size,3,none⟩=some (.int .i64 b.epoch):=(zB X5.out 3).trans rfl;by_cases hq:ep < b.epoch
   ·have hfn:=(Fr.same w5).alloc (.cells #[.int .i64 b.epoch,.int .i64 0,.int .i64 0,.int .i64 0,.int .i64 0,.int .i64 0,.int .i64 0,.int .i64 0,.int .i64 0,.int .i64 0,.int .i64 0,.int .i64 0,.int .i64 0,.int .i64 0,.int .i64 0,.int .i64 0,.int .i64 0,.int .i64 0] 255)
    have hxn:=zC w5 (.cells #[.int .i64 b.epoch,.int .i64 0,.int .i64 0,.int .i64 0,.int .i64 0,.int .i64 0,.int .i64 0,.int .i64 0,.int .i64 0,.int .i64 0,.int .i64 0,.int .i64 0,.int .i64 0,.int .i64 0,.int .i64 0,.int .i64 0,.int .i64 0,.int .i64 0] 255);have FN:=zz hfn;have HNW:=zz (show xc _ w5.heap.size b.epoch xP 0 0 from ⟨hxn,rfl,by omega,by omega⟩);clear hfn hxn;go_wp2_with fail
    generalize (w5.alloc (.cells #[.int .i64 b.epoch,.int .i64 0,.int .i64 0,.int .i64 0,.int .i64 0,.int .i64 0,.int .i64 0,.int .i64 0,.int .i64 0,.int .i64 0,.int .i64 0,.int .i64 0,.int .i64 0,.int .i64 0,.int .i64 0,.int .i64 0,.int .i64 0,.int .i64 0] 255))=w6 at *;clear d1 d2 d3 d4;have F6:=zz (F5.out.tr FN.out);have X6:=zz ((FN.out.block _ (zA X5.out) fun h=>h).trans X5.out);have HP6:=zz (H.out.old F6.out);have hs5:w.heap.size < w5.heap.size:=zA X5.out;have S5:=zz hs5;have z0:∀y:Lcl.InS (fun w'=>Fr (fun _=>False) w6 w'),y.w.cell? ⟨pb,0,none⟩=some (.map (some mb)):=fun y=>y.h.cel ((zB HP6.out.b 0).trans rfl)
    have z1:∀y:Lcl.InS (fun w'=>Fr (fun _=>False) w6 w'),y.w.cell? ⟨w.heap.size,2,none⟩=some (.int .i64 b.prod):=fun y=>y.h.cel ((zB X6.out 2).trans rfl)
    clear hs5;refine Lcl.wp_region_calm (by kernel_rfl) [(true,[0,1,2,4,6]),(false,[3,5])] #[0,1,3,7,0,16,0,127] [0,1,2,3,4,5,6] 1 #[true,true,true,true,true,true,true,false] (by kernel_rfl) (by kernel_rfl) (by kernel_rfl) (fun w'=>Fr (fun _=>False) w6 w') (Fr.same w6).drew (fun d c a v w h=>by cases d <;> exact h) ?_;simp only [Lcl.opsOf,List.map_cons,List.map_nil,List.getElem?_toArray,List.getElem?_cons_succ,List.getElem?_cons_zero,Option.getD_some];refine Lcl.wpCalm_t ?_;repeat (go_big_quiet_step (rfl))
    refine wpQuiet_nil ?_;refine Lcl.wpCalm_f ?_;repeat (go_big_quiet_step (rfl))
    refine wpQuiet_nil ?_;refine Lcl.wpCalm_nil ?_;refine Lcl.wpG_run [7] _ _ _ (by kernel_rfl) ?_;simp only [List.map_cons,List.map_nil,List.getElem?_toArray,List.getElem?_cons_succ,List.getElem?_cons_zero,Option.getD_some];clear z0 z1;have F7:=zz F6.out.drew;have H7:=zz (HP6.out.old (Fr.same w6).drew);have N7:=zz (HNW.out.old (Fr.same w6).drew);have X7:=zz (((Fr.same w6).drew.block _ (zA X6.out) fun h=>h).trans X6.out);clear X6 HP6 F6 HNW FN;generalize w6.drew=w7 at *;refine uJ uk _ rfl 238 249 Tryz.underlying238 (.tmp 37) (.tmp 39) (.tmp 40) rfl mb (vg L) rfl H7.out.m (by unfold vg; rw [List.length_map]; omega) b.prod rfl (by have h9:0≤b.prod∧b.prod≤1073741824:=MAY.out.1; simp [zUs,Lit.wf,IntKind.min,IntKind.max,IntKind.signed,IntKind.bits]; omega) (zIn ⟨w5.heap.size,b.epoch,xP,0,0⟩) rfl ?_;intro w8 hm8 hg8;have hf8:Fr (fun i=>i=mb) w7 w8:=Fr.grown (Fr.refl _ _) hg8 fun x e=>.inl (Option.some.inj e).symm
    have hmb:mb < w.heap.size:=H.out.m.lt;have hpb:pb < w.heap.size:=zA H.out.b;have X8:=(hf8.block _ (zA X7.out) (by omega)).trans X7.out;have A8:=zz (H7.out.anew (x:=⟨w5.heap.size,b.epoch,xP,0,0⟩) hm8 hf8 (N7.out.fr hf8 (by have:=S5.out; omega)) (show w5.heap.size≠pb by have:=S5.out; omega) (show w5.heap.size≠mb by have:=S5.out; omega) (fun y hy=>show y.2.hb≠w5.heap.size by have h1:=zA (H.out.el y hy).1.b; have:=S5.out; omega));have N8:=zz (N7.out.fr hf8 (by have:=S5.out; omega));have F8S:=zz ((F7.out.mono (S':=S) fun _ h=>h.elim).trans hf8 fun i e=>.inl (HS.out i (.inr (.inl e))));have d1:w8.cell? ⟨w.heap.size,4,none⟩=some (.int .i64 b.seq):=(zB X8 4).trans rfl;have d2:w8.cell? ⟨w.heap.size,0,none⟩=some (.int .i64 b.base):=(zB X8 0).trans rfl;have d3:w8.cell? ⟨w.heap.size,1,none⟩=some (.int .i64 b.span):=(zB X8 1).trans rfl;have HAD:=zz (zJc N8.out zDr b.seq b.base b.span MAY.out.2.2.1 ⟨by have:=MAY.out.2.2.2.1.1; omega,MAY.out.2.2.2.1.2⟩);clear hm8 hg8 hf8 hmb hpb X8 X7 N7 H7 F7;have HN:=zz (show vh F b=zDu F b.prod (b.epoch,zCk (uq xP 0 0) (b.seq,b.base,b.span)) by
     unfold vh;rw [if_pos MAY.out,HF.out];rcases CASE.out with ⟨x,hx,rfl⟩ | ⟨hx,e⟩
     ·rw [hx]; simp only [Option.map,zVm]; rw [if_neg (by omega),if_neg (by omega)]; rfl
     ·rw [hx]; rfl)
    go_wp2_with fail
    refine HAD.out.mono ?_;rintro e w9 hp;have hps:=fun i (hi:zCj pb mb ((b.prod,(⟨w5.heap.size,b.epoch,xP,0,0⟩:Hrd))::L.filter fun r=>r.1≠b.prod) i)=>(zQi hi)
    have o1:∀y∈((b.prod,(⟨w5.heap.size,b.epoch,xP,0,0⟩:Hrd))::L.filter fun r=>r.1≠b.prod),ju y.2.r y.2.f:=by
     intro y hy;rcases List.mem_cons.1 hy with rfl | hy
     ·exact zDr
     ·exact HR.out y (List.mem_filter.1 hy).1
    have o2:∀i,zCj pb mb ((b.prod,(⟨w5.heap.size,b.epoch,xP,0,0⟩:Hrd))::L.filter fun r=>r.1≠b.prod) i→S i∨w.heap.size≤i:=by
     intro i hi;rcases hps i hi with h | h
     ·exact .inl (HS.out i h)
     ·exact .inr (by have:=S5.out; have h:i=w5.heap.size:=h; omega)
    have o3:∀k,zDu F b.prod (b.epoch,[]) k=(yV ((b.prod,(⟨w5.heap.size,b.epoch,xP,0,0⟩:Hrd))::L.filter fun r=>r.1≠b.prod) k).map zVm:=by
     intro k;rw [zGq];unfold zDu;by_cases e:k=b.prod
     ·rw [if_pos e,if_pos e]; rfl
     ·rw [if_neg e,if_neg e]; exact HF.out k
    have o4:((b.prod,(⟨w5.heap.size,b.epoch,xP,0,0⟩:Hrd))::L.filter fun r=>r.1≠b.prod).length≤n+1:=by
     rw [List.length_cons]
     have:=List.length_filter_le (fun r:Int × Hrd=>decide (r.1≠b.prod)) L
     omega
    obtain ⟨rfl,hpw,hf9⟩:=zNf A8.out o1 o2 o3 o4 (show yV _ b.prod=some ⟨w5.heap.size,b.epoch,xP,0,0⟩ by rw [zGq,if_pos rfl]) hp;have PW:=zz hpw;have F9:=zz hf9;clear hp hpw hf9 HAD d1 d2 d3 hps o1 o2 o3 o4;go_wp2_with fail
    go_end0
    rw [HN.out];have he2:zDu (zDu F b.prod (b.epoch,[])) b.prod (b.epoch,zCk (uq xP 0 0) (b.seq,b.base,b.span))=zDu F b.prod (b.epoch,zCk (uq xP 0 0) (b.seq,b.base,b.span)):=by
     funext k; unfold zDu; split <;> rfl
    have P9:=PW.out;rw [he2] at P9;refine ⟨rfl,P9,F8S.out.trans F9.out fun i h=>?_⟩;rcases h with h | h
    ·exact .inl h
    ·exact .inr h
   ·obtain rfl:b.epoch=ep:=by have:=HE.out; omega
    have HX:∃x,yV L b.prod=some x∧x=⟨hb,b.epoch,r,f,c⟩:=by
     rcases CASE.out with h | ⟨-,h⟩
     ·exact h
     ·exfalso; have:=MAY.out.2.1.1; omega
    obtain ⟨x,hx,hxe⟩:=HX;subst hxe;have HX:=zz hx;have HAD:=zz (zJc H5.out (HR.out _ (ui hx)) b.seq b.base b.span MAY.out.2.2.1 ⟨by have:=MAY.out.2.2.2.1.1; omega,MAY.out.2.2.2.1.2⟩);have HN:=zz (show vh F b=zDu F b.prod (b.epoch,zCk (uq r f c) (b.seq,b.base,b.span)) by
     unfold vh;rw [if_pos MAY.out,HF.out,hx];simp only [Option.map,zVm];rw [if_neg (by omega)]; simp)
    clear hx CASE;go_wp2_with fail
    refine HAD.out.mono ?_;rintro e w7 hp;obtain ⟨rfl,hpw,hf7⟩:=zNf (H.out.old F5.out) HR.out HS.out HF.out hL HX.out hp;have PW:=zz hpw;have F7:=zz hf7;clear hp hpw hf7 HAD d1 d2 d3 d4;go_wp2_with fail
    go_end0
    rw [HN.out];exact ⟨rfl,zQh PW.out (fun i hi=>.inl hi) (by omega),(F5.out.mono (S':=S) fun _ h=>h.elim).trans F7.out fun _ h=>.inl h⟩
 ·have MAY:=zz hmay
  clear hmay;go_enter Tryz.func78,Tryz.ntmps78
  go_wp2_with fail
  generalize (w.alloc (.cells #[.int .i64 b.base,.int .i64 b.span,.int .i64 b.prod,.int .i64 b.epoch,.int .i64 b.seq,.slice oa m cap] 35))=W at *;refine HM.out.mono ?_;rintro e w2 ⟨c,rfl,hc,hf2⟩;obtain rfl:c=false:=by
   cases c with
   | false=>rfl
   | true=>exact absurd (hc.1 rfl) MAY.out
  have F2:=zz (FA.out.tr hf2);clear hf2 HM hc;go_wp2_with fail
  go_end0
  have HN:vh F b=F:=by unfold vh; rw [if_neg MAY.out]
  rw [HN];exact ⟨rfl,⟨mb,L,H.out.old F2.out,HR.out,fun i hi=>.inl (HS.out i hi),HF.out,by omega⟩,F2.out.mono fun _ h=>h.elim⟩
end
theorem zLd {n:Nat} (h:n≤1000000000000000000):(Lit.int .i64 (n:Int)).wf=true:=by
 simp [Lit.wf,IntKind.min,IntKind.max,IntKind.signed,IntKind.bits]; omega
theorem xt {s:ByteArray} (h:s.size≤1000000000000000000):(zI s).size≤10+s.size:=by
 have:=zb (zLd h)
 unfold zI;rw [ByteArray.size_append];omega
theorem zQk (s:ByteArray) (w:World) (hs:s.size≤1000000000000000000):
  Calls Tryz.prog 186 #[.string s] w fun e w'=>e=.returned (.string (zI s))∧Fr (fun _=>False) w w':=by
 have hp:=zb (zLd hs);go_enter Tryz.func186,Tryz.ntmps186
 go_wp2_with fail
 refine (xF _ _ (zLd hs)).mono ?_;rintro e w2 ⟨rfl,hf⟩;go_wp2_with fail
 go_ret
 exact ⟨rfl,hf⟩
section
variable {w w':World} {cb:Nat} {s:ByteArray} {bad:Bool} {S:Nat→Prop}
def jQ (w:World) (cb:Nat) (s:ByteArray) (bad:Bool):Prop:=w.heap[cb]?=some (.cells #[.string s,.int .i64 0,.bool false,.bool bad] 221 (0,0))
theorem jQ.fr (h:jQ w cb s bad) (hf:Fr S w w') (h1:¬S cb):jQ w' cb s bad:=(hf.block cb (zA h) h1).trans h
theorem jQ.old (h:jQ w cb s bad) (hf:Fr (fun _=>False) w w'):jQ w' cb s bad:=h.fr hf fun h=>h
theorem jQ.setBad (h:jQ w cb s bad) (b:Bool):jQ (w.setCell ⟨cb,3,none⟩ (.bool b)) cb s b:=(zE h _).trans rfl
theorem jQ.setStr (h:jQ w cb s bad) (t:ByteArray):jQ (w.setCell ⟨cb,0,none⟩ (.string t)) cb t bad:=(zE h _).trans rfl
def jf (w:World) (cb:Nat) (s:ByteArray) (bad:Bool) (e:Ending) (w':World):Prop:=e=.returned (.tuple #[])∧jQ w' cb s bad∧Fr (fun i=>i=cb) w w'
theorem jv (h:jQ w cb s bad) (c:Bool):Calls Tryz.prog 184 #[.pointer (some ⟨cb,0,none⟩),.bool c] w (jf w cb s (bad || !c)):=by
 have dd:=fun j=>zB h j
 have fz:=fun j=>zd h j
 have H:=zz (h.setBad (bad || !c));have F:=zz ((Fr.refl (fun i=>i=cb) w).setCell (p:=⟨cb,3,none⟩) (.inl rfl) (.bool (bad || !c)));clear h;cases bad <;> cases c
 all_goals
  go_enter Tryz.func184,Tryz.ntmps184
  go_wp2_with fail
  go_end0
  exact ⟨rfl,H.out,F.out⟩
def okN (n lo hi:Int):Bool:=decide (lo≤n∧n≤hi)
theorem jg (h:jQ w cb s bad) (p:Addr) (n lo hi:Int) (hn:(Lit.int .i64 n).wf=true) (hp:w.cell? p=some (.int .i64 n)) (hne:p.block≠cb) (hs:s.size≤2000000000000000):
  Calls Tryz.prog 118 #[.pointer (some ⟨cb,0,none⟩),.pointer (some p),.int .i64 lo,.int .i64 hi] w (jf w cb (s++zM n) (bad || !okN n lo hi)):=by
 have dd:=fun j=>zB h j
 have H:=zz h;have HP:=zz hp;have HPS:=zz (zb hn);have z0:∀y:Lcl.InS (fun w'=>Fr (fun _=>False) w w'),y.w.cell? ⟨cb,0,none⟩=some (.string s):=fun y=>y.h.cel ((zB H.out 0).trans rfl)
 have z1:∀y:Lcl.InS (fun w'=>Fr (fun _=>False) w w'),y.w.cell? p=some (.int .i64 n):=fun y=>y.h.cel HP.out
 clear h hp;go_enter Tryz.func118,Tryz.ntmps118
 go_wp2_with fail
 refine Lcl.wp_region_calm (by kernel_rfl) [(true,[0,1,2,4,5]),(false,[3,6])] #[0,1,3,7,0,16,48,112,255,511,1023,2047] [0,1,2,3,4,5,6,7] 5 #[true,true,true,true,true,true,true,false,false,false,false,false] (by kernel_rfl) (by kernel_rfl) (by kernel_rfl) (fun w'=>Fr (fun _=>False) w w') (Fr.same w).drew (fun d c a v w h=>by cases d <;> exact h) ?_;simp only [Lcl.opsOf,List.map_cons,List.map_nil,List.getElem?_toArray,List.getElem?_cons_succ,List.getElem?_cons_zero,Option.getD_some];refine Lcl.wpCalm_t ?_;repeat (go_big_quiet_step (rfl))
 refine wpQuiet_nil ?_;refine Lcl.wpCalm_f ?_;repeat (go_big_quiet_step (rfl))
 refine wpQuiet_nil ?_;refine Lcl.wpCalm_nil ?_;have F1:=zz (Fr.same w).drew;have H1:=zz (H.out.old F1.out);have P1:=zz (F1.out.cel HP.out);clear z0 z1 dd;generalize w.drew=w1 at *;refine Lcl.wpG_one 7 rfl (by kernel_rfl) ?_;go_wp2_with fail
 refine (xF n w1 hn).mono ?_;rintro e w2 ⟨rfl,hf2⟩;have F2:=zz (F1.out.tr hf2);have H2:=zz (H1.out.old hf2);have P2:=zz (hf2.cel P1.out);clear hf2 H1 P1 F1;go_wp2_with fail
 refine ⟨fun _ _=>F2.out,?_⟩;refine Lcl.wpG_run [8,9,10,11] _ _ _ (by kernel_rfl) ?_;simp only [List.map_cons,List.map_nil,List.getElem?_toArray,List.getElem?_cons_succ,List.getElem?_cons_zero,Option.getD_some];have hps:=HPS.out;have dd:=fun j=>zB H2.out j
 have fz:=fun j=>zd H2.out j
 have hF3:Fr (fun i=>i=cb) w2 (w2.setCell ⟨cb,0,none⟩ (.string (s++zM n))):=(Fr.refl (fun i=>i=cb) w2).setCell (p:=⟨cb,0,none⟩) (.inl rfl) _;have F3:=zz ((F2.out.mono (S':=fun i=>i=cb) fun _ h=>h.elim).trans hF3 fun _ h=>.inl h);have H3:=zz (H2.out.setStr (s++zM n));have p3:(w2.setCell ⟨cb,0,none⟩ (.string (s++zM n))).cell? p=some (.int .i64 n):=hF3.cell P2.out hne;have W:=zz (jv H3.out (okN n lo hi));clear hF3;by_cases h1:lo≤n
 ·by_cases h2:n≤hi
  ·have OK:=zz (show okN n lo hi=true from decide_eq_true ⟨h1,h2⟩)
   rw [OK.out] at W;go_wp2_with fail
   refine W.out.mono ?_;rintro e w4 ⟨rfl,h4,f4⟩;have H4:=zz h4;have F4:=zz f4;clear h4 f4;go_wp2_with fail
   go_end0
   rw [OK.out];exact ⟨rfl,H4.out,F3.out.trans F4.out fun _ h=>.inl h⟩
  ·have OK:=zz (show okN n lo hi=false from decide_eq_false fun x=>h2 x.2)
   rw [OK.out] at W;have d2:decide (n≤hi)=false:=decide_eq_false h2;go_wp2_with fail
   refine W.out.mono ?_;rintro e w4 ⟨rfl,h4,f4⟩;have H4:=zz h4;have F4:=zz f4;clear h4 f4;go_wp2_with fail
   go_end0
   rw [OK.out];exact ⟨rfl,H4.out,F3.out.trans F4.out fun _ h=>.inl h⟩
 ·have OK:=zz (show okN n lo hi=false from decide_eq_false fun x=>h1 x.1)
  rw [OK.out] at W;go_wp2_with fail
  refine W.out.mono ?_;rintro e w4 ⟨rfl,h4,f4⟩;have H4:=zz h4;have F4:=zz f4;clear h4 f4;go_wp2_with fail
  go_end0
  rw [OK.out];exact ⟨rfl,H4.out,F3.out.trans F4.out fun _ h=>.inl h⟩
end
section
variable {w w':World} {cb:Nat} {s:ByteArray} {bad:Bool} {S:Nat→Prop}
theorem zTg {arr:Array Value} {j:Nat} {v:Value} (h:arr[j]?=some v):arr.setIfInBounds j v=arr:=by
 apply Array.ext_getElem?
 intro i;rw [Array.getElem?_setIfInBounds];split
 ·rename_i e
  subst e;rw [h,if_pos (Array.getElem?_eq_some_iff.1 h).1]
 ·rfl
def okT (t:ByteArray) (most:Int):Bool:=decide ((t.size:Int)≤most)
theorem yw (h:jQ w cb s bad) (p:Addr) (t:ByteArray) (most:Int) (ht:t.size≤2000000000000000) (hp:w.cell? p=some (.string t)) (hne:p.block≠cb) (hs:s.size≤2000000000000000):
  Calls Tryz.prog 119 #[.pointer (some ⟨cb,0,none⟩),.pointer (some p),.int .i64 most] w (jf w cb (s++zI t) (bad || !okT t most)):=by
 have dd:=fun j=>zB h j
 have H:=zz h;have HP:=zz hp;have HPS:=zz (xt (s:=t) (by omega));have W:=zz (jv h (okT t most));unfold okT at W;clear h;go_enter Tryz.func119,Tryz.ntmps119
 go_wp2_with fail
 refine W.out.mono ?_;rintro e w1 ⟨rfl,h1,f1⟩;have H1:=zz h1;have FX1:=zz f1;have P1:=zz (f1.cell hp hne);clear h1 f1 hp dd W;have z0:∀y:Lcl.InS (fun w'=>Fr (fun _=>False) w1 w'),y.w.cell? ⟨cb,0,none⟩=some (.string s):=fun y=>y.h.cel ((zB H1.out 0).trans rfl)
 have z1:∀y:Lcl.InS (fun w'=>Fr (fun _=>False) w1 w'),y.w.cell? p=some (.string t):=fun y=>y.h.cel P1.out
 go_wp2_with fail
 refine Lcl.wp_region_calm (by kernel_rfl) [(true,[0,1,2,4,5]),(false,[3,6])] #[0,1,3,7,0,16,48,112,255,511,1023,2047] [0,1,2,3,4,5,6,7] 5 #[true,true,true,true,true,true,true,false,false,false,false,false] (by kernel_rfl) (by kernel_rfl) (by kernel_rfl) (fun w'=>Fr (fun _=>False) w1 w') (Fr.same w1).drew (fun d c a v w h=>by cases d <;> exact h) ?_;simp only [Lcl.opsOf,List.map_cons,List.map_nil,List.getElem?_toArray,List.getElem?_cons_succ,List.getElem?_cons_zero,Option.getD_some];refine Lcl.wpCalm_t ?_;repeat (go_big_quiet_step (rfl))
 refine wpQuiet_nil ?_;refine Lcl.wpCalm_f ?_;repeat (go_big_quiet_step (rfl))
 refine wpQuiet_nil ?_;refine Lcl.wpCalm_nil ?_;have F1:=zz (Fr.same w1).drew;have H2:=zz (H1.out.old F1.out);clear z0 z1;generalize w1.drew=w2 at *;refine Lcl.wpG_one 7 rfl (by kernel_rfl) ?_;go_wp2_with fail
 refine (zQk t w2 (by omega)).mono ?_;rintro e w3 ⟨rfl,hf3⟩;have F3:=zz (F1.out.tr hf3);have H3:=zz (H2.out.old hf3);clear hf3 H1 H2 F1;go_wp2_with fail
 refine ⟨fun _ _=>F3.out,?_⟩;refine Lcl.wpG_run [8,9,10,11] _ _ _ (by kernel_rfl) ?_;simp only [List.map_cons,List.map_nil,List.getElem?_toArray,List.getElem?_cons_succ,List.getElem?_cons_zero,Option.getD_some];have hps:=HPS.out;have dd:=fun j=>zB H3.out j
 have fz:=fun j=>zd H3.out j
 have hF4:Fr (fun i=>i=cb) w3 (w3.setCell ⟨cb,0,none⟩ (.string (s++zI t))):=(Fr.refl (fun i=>i=cb) w3).setCell (p:=⟨cb,0,none⟩) (.inl rfl) _;have F4:=zz ((F3.out.mono (S':=fun i=>i=cb) fun _ h=>h.elim).trans hF4 fun _ h=>.inl h);have H4:=zz (H3.out.setStr (s++zI t));clear hF4;go_wp2_with fail
 go_end0
 exact ⟨rfl,H4.out,FX1.out.trans F4.out fun _ h=>.inl h⟩
theorem zQl (h:jQ w cb s bad) (xb j:Nat) (arr:Array Value) (t:TypeId) (v:Bool) (hx:w.heap[xb]?=some (.cells arr t (0,0))) (hv:arr[j]?=some (.bool v)) (hne:xb≠cb) (hs:s.size≤2000000000000000):
  Calls Tryz.prog 121 #[.pointer (some ⟨cb,0,none⟩),.pointer (some ⟨xb,j,none⟩)] w (jf w cb (s++zM (if v then 1 else 0)) bad):=by
 have hsz:=zA h;have LX:=zz (zA hx);have HV:=zz hv;have f0:=(Fr.same w).alloc (.cells #[.int .i64 0] 3);have x0:=zC w (.cells #[.int .i64 0] 3);have cv:=f0.cel ((zB hx j).trans hv);cases v
 ·show Calls Tryz.prog 121 #[.pointer (some ⟨cb,0,none⟩),.pointer (some ⟨xb,j,none⟩)] w (jf w cb (s++zM 0) bad)
  have HX:=zz ((f0.block _ (zA hx) fun h=>h).trans hx);have HW:=zz (jg (h.old f0) ⟨w.heap.size,0,none⟩ 0 0 1 rfl ((zB x0 0).trans rfl) (by show w.heap.size≠cb; omega) hs);rw [show (bad || !okN 0 0 1)=bad by cases bad <;> rfl] at HW;have X0:=zz x0;have F0:=zz (f0.mono (S':=fun i=>i=cb) fun _ h=>h.elim);clear h hx x0 f0 hv;go_enter Tryz.func121,Tryz.ntmps121
  go_wp2_with fail
  generalize (w.alloc (.cells #[.int .i64 0] 3))=w0 at *;refine HW.out.mono ?_;rintro e w1 ⟨rfl,h1,f1⟩;have H1:=zz h1;have F1:=zz (F0.out.trans f1 fun _ h=>.inl h);have X1:=zz ((f1.block _ (zA X0.out) (by omega)).trans X0.out);have B1:=zz ((f1.block _ (zA HX.out) hne).trans HX.out);clear h1 f1 HW cv;have d0:w1.cell? ⟨w.heap.size,0,none⟩=some (.int .i64 0):=(zB X1.out 0).trans rfl;have d1:w1.cell? ⟨xb,j,none⟩=some (.bool false):=(zB B1.out j).trans HV.out;have d2:=zd B1.out j;have E1:=zz (show (w1.setCell ⟨xb,j,none⟩ (.bool false)).heap[xb]?=w1.heap[xb]? from (zE B1.out _).trans (by rw [B1.out,zTg HV.out]));have B1lt:=zA B1.out;have X2:=zz (show jQ (w1.setCell ⟨xb,j,none⟩ (.bool false)) cb (s++zM 0) bad from (zV w1 hne.symm _).trans H1.out);have F2:=zz (show Fr (fun i=>i=cb) w (w1.setCell ⟨xb,j,none⟩ (.bool false)) from F1.out.trans (S':=fun _=>False) ⟨rfl,rfl,rfl,by simp [World.setCell],fun k hk _=>by
   by_cases e:k=xb
   ·subst e; exact E1.out
   ·exact zV w1 e _⟩ fun _ h=>h.elim)
  go_wp2_with fail
  go_end0
  exact ⟨rfl,X2.out,F2.out⟩
 ·show Calls Tryz.prog 121 #[.pointer (some ⟨cb,0,none⟩),.pointer (some ⟨xb,j,none⟩)] w (jf w cb (s++zM 1) bad)
  have f1:=(Fr.same w).alloc (.cells #[.int .i64 1] 3);have x1:=zC w (.cells #[.int .i64 1] 3);have HX:=zz ((f1.block _ (zA hx) fun h=>h).trans hx);have HW:=zz (jg (h.old f1) ⟨w.heap.size,0,none⟩ 1 0 1 rfl ((zB x1 0).trans rfl) (by show w.heap.size≠cb; omega) hs);rw [show (bad || !okN 1 0 1)=bad by cases bad <;> rfl] at HW;have X0:=zz x1;have F0:=zz (f1.mono (S':=fun i=>i=cb) fun _ h=>h.elim);clear h hx x0 f0 hv x1 f1;go_enter Tryz.func121,Tryz.ntmps121
  go_wp2_with fail
  generalize (w.alloc (.cells #[.int .i64 1] 3))=w0 at *;refine HW.out.mono ?_;rintro e w1 ⟨rfl,h1,f1⟩;have H1:=zz h1;have F1:=zz (F0.out.trans f1 fun _ h=>.inl h);have X1:=zz ((f1.block _ (zA X0.out) (by omega)).trans X0.out);have B1:=zz ((f1.block _ (zA HX.out) hne).trans HX.out);clear h1 f1 HW cv;have d0:w1.cell? ⟨w.heap.size,0,none⟩=some (.int .i64 1):=(zB X1.out 0).trans rfl;have d1:w1.cell? ⟨xb,j,none⟩=some (.bool true):=(zB B1.out j).trans HV.out;have d2:=zd B1.out j;have E1:=zz (show (w1.setCell ⟨xb,j,none⟩ (.bool true)).heap[xb]?=w1.heap[xb]? from (zE B1.out _).trans (by rw [B1.out,zTg HV.out]));have B1lt:=zA B1.out;have X2:=zz (show jQ (w1.setCell ⟨xb,j,none⟩ (.bool true)) cb (s++zM 1) bad from (zV w1 hne.symm _).trans H1.out);have F2:=zz (show Fr (fun i=>i=cb) w (w1.setCell ⟨xb,j,none⟩ (.bool true)) from F1.out.trans (S':=fun _=>False) ⟨rfl,rfl,rfl,by simp [World.setCell],fun k hk _=>by
   by_cases e:k=xb
   ·subst e; exact E1.out
   ·exact zV w1 e _⟩ fun _ h=>h.elim)
  go_wp2_with fail
  go_end0
  exact ⟨rfl,X2.out,F2.out⟩
def plS (s:ByteArray) (l:List Int):ByteArray:=l.foldl (fun s n=>s++zM n) s
def plB (bad:Bool) (l:List Int):Bool:=l.foldl (fun b n=>b || !okN n (-1) 2199023255552) bad
theorem vi:∀(l:List Int) (s:ByteArray),(∀n∈l,(Lit.int .i64 n).wf=true)→(plS s l).size≤s.size+10 * l.length
 | [],s,_=>Nat.le_refl _
 | n::l,s,h=>by
  have h1:=zb (h n (List.mem_cons_self));have h2:=vi l (s++zM n) fun m hm=>h m (List.mem_cons_of_mem _ hm)
  have h3:plS s (n::l)=plS (s++zM n) l:=rfl;rw [h3,List.length_cons];rw [ByteArray.size_append] at h2;omega
theorem zDv {α:Type} {l:List α} {k:Nat} {x:α} (h:l[k]?=some x):l.take (k+1)=l.take k++ [x]:=by
 rw [List.take_add_one,h]; rfl
theorem zEr (h:jQ w cb s bad) (a:Addr) (L:List (Addr × Int)) (hL:L.length≤10) (hc:∀k x,L[k]?=some x→w.cell? (a.add k)=some (.pointer (some x.1))∧w.cell? x.1=some (.int .i64 x.2)∧x.1.block≠cb∧(Lit.int .i64 x.2).wf=true) (ha:a.block≠cb) (hs:s.size≤1800000000000000):
  Calls Tryz.prog 120 #[.pointer (some ⟨cb,0,none⟩),.slice (some a) L.length L.length] w (jf w cb (plS s (L.map (·.2))) (plB bad (L.map (·.2)))):=by
 have H:=zz h;have HC:=zz hc;clear h hc;go_enter Tryz.func120,Tryz.ntmps120
 go_wp2_with fail
 go_loopw [8] (fun i wr=>∃k:Nat,i=.int .i64 k∧k≤L.length∧jQ wr cb (plS s ((L.take k).map (·.2))) (plB bad ((L.take k).map (·.2)))∧Fr (fun i=>i=cb) w wr) (fun i _=>L.length - (intOf i).toNat)
 case atStart=>exact ⟨0,rfl,Nat.zero_le _,H.out,Fr.refl _ _⟩
 case round=>
  obtain ⟨k,rfl,hk,hcod,hf⟩:=hrel;have CD:=zz hcod;have F:=zz hf;clear hcod hf;rcases Nat.lt_or_ge k L.length with hlt | hge
  ·obtain ⟨x,hx⟩:=zH hlt
   obtain ⟨c1,c2,c3,c4⟩:=HC.out k x hx;have C3:=zz c3;have HX:=zz hx;have d1:=F.out.cell c1 (by rw [yG]; exact ha);have d2:=F.out.cell c2 c3;have hsz:=vi ((L.take k).map (·.2)) s (by
    intro n hn;obtain ⟨y,hy,rfl⟩:=List.mem_map.1 hn;obtain ⟨i,hi⟩:=List.mem_iff_getElem?.1 (List.mem_of_mem_take hy);exact (HC.out i y hi).2.2.2)
   rw [List.length_map,List.length_take] at hsz;have W:=zz (jg CD.out x.1 x.2 (-1) 2199023255552 c4 d2 c3 (by omega));clear c1 c2 c3 c4 d2 hx hsz;go_wp2_with fail
   refine W.out.mono ?_;rintro e w2 ⟨rfl,h2,f2⟩;have H2:=zz h2;have F2:=zz (F.out.trans f2 fun _ h=>.inl h);clear h2 f2 W d1;have HT:=zz (zDv HX.out);go_wp2_with fail
   go_roundw
   case rel=>
    refine ⟨k+1,by go_num,by omega,?_,F2.out⟩;rw [HT.out,List.map_append];unfold plS plB;rw [List.foldl_append,List.foldl_append];exact H2.out
   case measure=>simp [intOf]; omega
  ·obtain rfl:k=L.length:=by omega
   rw [List.take_length] at CD;go_wp2_with fail
   go_end0
   exact ⟨rfl,CD.out,F.out⟩
end
end Go.Proofs.YtfdhofabgdkkkaaGreatDoor
