/- A part of the proof that what the machine is told keeps its bounds. -/
import Derived.Test.YtfdhofabgdkkkaaGreatDoorJ40
import Derived.Test.YtfdhofabgdkkkaaGreatDoorJ20
import Derived.Test.YtfdhofabgdkkkaaGreatDoorJ24
set_option maxHeartbeats 128000000
set_option maxRecDepth 100000
namespace Go.Proofs.YtfdhofabgdkkkaaGreatDoor
open Lib renaming hid→zz
open Go.RowKit Go.Fm Go.BigFrame Go.Shelf Go.Maps
set_option linter.unusedVariables false
set_option linter.unusedSimpArgs false
section
variable {w w':World} {S K:Nat→Prop}
def zIa (L:List (zY × zR)) (i:Int):Nat→List (zY × zR)
 | 0=>L
 | k+1=>(zIa L i k).filter fun x=>x.1≠⟨i,(k:Int)⟩
theorem yg (L:List (zY × zR)) (i:Int):∀k,(zIa L i k).Sublist L
 | 0=>List.Sublist.refl _
 | k+1=>List.filter_sublist.trans (yg L i k)
theorem zYr (L:List (zY × zR)) (p:zY):jU (L.filter fun x=>x.1≠p)=vZ (jU L) p:=by
 unfold jU vZ;rw [List.filter_map];rfl
theorem zW.less {m:zG} (h:zW w m) {S:Nat→Prop} {L:List (zY × zR)} {TL:List (ByteArray × Value)} (hL:L.Sublist m.L) (hT:TL.Sublist m.TL) (ht:uR w' m.tb m.tmb m.tn TL) (hm:xT kf w' m.pm (jU L)) (hf:Fr S w w') (h1:¬S m.mb) (h2:∀x∈L,∀i,x.2.T i→¬S i):zW w' { m with L:=L,TL:=TL } :=
 ⟨(hf.block _ (zA h.b) h1).trans h.b,ht,hm,h.n1,h.pos,fun x hx=>(h.part x (hL.subset hx)).fr hf (h2 x hx),fun x hx=>h.off x (hL.subset hx),h.dis.sublist hL,fun r hr=>h.ids r (hT.subset hr),h.tn,h.nx⟩
def DMid1 (w:World) (b:Nat) (w':World):Prop:=Fr (fun _=>False) w w'
def DMid2 (m:zG) (name:ByteArray) (w:World) (b:Nat) (w':World):Prop:=uR w' m.tb m.tmb m.tn (vZ m.TL name)∧Fr (fun i=>i=m.tmb) w w'
def zMe (m:zG) (c:zO) (N:Nat) (name:ByteArray) (w:World) (e:Ending) (w':World):Prop:=
 (zk m.TL name=none∧e=.returned (xC 6 0)∧Fr (fun _=>False) w w')
 ∨(∃(i p:Int) (c':zO),zk m.TL name=some (yq i p)∧e=.returned (xC 0 i)∧zW w' { m with L:=zIa m.L i 16,TL:=vZ m.TL name } ∧xd w' c' (N+2)∧c'= { c with O:=vY c.O (fun k=>decide (k.t=name)) } ∧Fr (fun j=>j=m.tmb∨j=m.pm∨c.T j) w w')
theorem zPm {m:zG} (hM:zW w m) {c:zO} {N:Nat} (hC:xd w c N) (hcv:m.cv=.pointer (some ⟨c.cb,0,none⟩)) (hoff:∀i,c.T i→¬m.A i) (q:Req) (rv kv tv:Value) (hn:q.name.size≤maxLen):
  Calls Tryz.prog 35 #[.pointer (some ⟨m.mb,0,none⟩),.agg (zT q rv kv tv)] w (zMe m c N q.name w):=by
 obtain ⟨w1,hw1,f1,x0,x1⟩:=zBk w q rv kv tv;have F1:=zz f1;have X1:=zz x1;have HM:=zz (hM.old f1);have HC:=zz (hC.old f1);have HC0:=zz hC;have HM0:=zz hM;have HO:=zz hoff;have HN:=zz hn;have L1:=zz (zA x1);unfold zT at x0 hw1 ⊢;unfold yE at hw1;have X0:=zz x0;clear hM hC hoff hn f1 x0 x1;go_enter Tryz.func35,Tryz.ntmps35
 go_wp2_with fail
 rw [←hw1];clear hw1;have DW:=zz (fun w' (hf:Fr (fun _=>False) w1 w')=>zMc (HM.out.old hf).top q.name HN.out);cases hg:zk m.TL q.name with
 | none=>
  have HG:=zz hg;apply Lcl.region_alike (F:=DMid1 w1)
  case hr=>
   have y0:∀y:Lcl.InS (fun w'=>Fr (fun _=>False) w1 w'),y.w.cell? ⟨m.mb,0,none⟩=some (.pointer (some ⟨m.tb,0,none⟩)):=fun y=>y.h.cel ((zB HM.out.b 0).trans rfl)
   have y1:∀y:Lcl.InS (fun w'=>Fr (fun _=>False) w1 w'),y.w.cell? ⟨w.heap.size,1,none⟩=some (.string q.name):=fun y=>y.h.cel ((zB X0.out 1).trans rfl)
   have FD:=zz (Fr.same w1).drew;refine Lcl.wp_region_calm (by kernel_rfl) [(true,[0,1,2,4]),(false,[3,5])] #[0,1,3,7,0,16,63,127,255,255,511,2047] [0,1,2,3,4,5] 6 #[true,true,true,true,true,true,false,false,false,false,false,false] (by kernel_rfl) (by kernel_rfl) (by kernel_rfl) (fun w'=>Fr (fun _=>False) w1 w') (Fr.same w1).drew (fun d c a v w h=>by cases h.1) ?_;simp only [Lcl.opsOf,List.map_cons,List.map_nil,List.getElem?_toArray,List.getElem?_cons_succ,List.getElem?_cons_zero,Option.getD_some];refine Lcl.wpCalm_t ?_
   repeat (go_big_quiet_step (rfl))
   refine wpQuiet_nil ?_;refine Lcl.wpCalm_f ?_
   repeat (go_big_quiet_step (rfl))
   refine wpQuiet_nil ?_;refine Lcl.wpCalm_nil ?_;clear y0 y1;refine Lcl.wpG_one 6 rfl (by kernel_rfl) ?_;go_wp2_with fail
   refine (DW.out _ FD.out).mono ?_;rintro e w5 hcase;rcases hcase with ⟨i,p,h,-⟩ | ⟨-,rfl,f5⟩
   ·rw [HG.out] at h; cases h
   have FIN:=zz (show ∀b,DMid1 w1 b w5 from fun b=>FD.out.tr f5);clear f5;obtain ⟨b0,hb0⟩:∃b0:Nat,b0=0:=⟨_,rfl⟩;go_wp2_with fail
   refine ⟨fun h=>absurd h (by decide),?_⟩;refine Lcl.wpG_one 7 rfl (by kernel_rfl) ?_;go_wp2_with fail
   refine ⟨fun h=>absurd h (by decide),?_⟩;refine Lcl.wpG_two 8 9 rfl rfl (by kernel_rfl) ?_ ?_
   ·go_wp2_with fail
    refine ⟨fun h=>absurd h (by decide),?_⟩;refine Lcl.wpG_two 9 10 rfl rfl (by kernel_rfl) ?_ ?_
    ·go_wp2_with fail
     refine ⟨fun h=>absurd h (by decide),?_⟩;refine Lcl.wpG_run [10,11] _ _ _ (by kernel_rfl) ?_;simp only [List.map_cons,List.map_nil,List.getElem?_toArray,List.getElem?_cons_succ,List.getElem?_cons_zero,Option.getD_some];go_wp2_with fail
     exact ⟨b0,rfl,FIN.out b0⟩
    ·go_wp2_with fail
     refine ⟨fun h=>absurd h (by decide),?_⟩;refine Lcl.wpG_run [9,11] _ _ _ (by kernel_rfl) ?_;simp only [List.map_cons,List.map_nil,List.getElem?_toArray,List.getElem?_cons_succ,List.getElem?_cons_zero,Option.getD_some];go_wp2_with fail
     first | exact ⟨b0,FIN.out b0⟩ | exact ⟨b0,rfl,FIN.out b0⟩
   ·go_wp2_with fail
    refine ⟨fun h=>absurd h (by decide),?_⟩;refine Lcl.wpG_run [8,10,11] _ _ _ (by kernel_rfl) ?_;simp only [List.map_cons,List.map_nil,List.getElem?_toArray,List.getElem?_cons_succ,List.getElem?_cons_zero,Option.getD_some];go_wp2_with fail
    first | exact ⟨b0,FIN.out b0⟩ | exact ⟨b0,rfl,FIN.out b0⟩
  rintro b w5 hmid;unfold DMid1 at hmid;have F5:=zz (F1.out.tr hmid);have X3:=zz ((hmid.block _ (zA X1.out) fun h=>h).trans X1.out);clear hmid hg;go_wp2_with fail
  refine (yh 0 6 (by decide) _).mono ?_;rintro e w8 ⟨rfl,hf8⟩;have X8:=(hf8.block _ (zA X3.out) fun h=>h).trans X3.out;have R9:=setRow_heap w8 (w.heap.size+1) _ (zS 6 0 0 0 0 0 0 (.slice none 0 0) (.slice none 0 0) (.slice none 0 0)) 31 (0,0) X8;have FN:=zz (zZ ((Fr.same w8).mono (S':=fun i=>i=w.heap.size+1) fun _ h=>h.elim) (g:=w.heap.size+1) (.inl rfl) (zS 6 0 0 0 0 0 0 (.slice none 0 0) (.slice none 0 0) (.slice none 0 0)));have F8:=zz hf8;clear hf8;go_wp2_with (refine zJ rfl _ _ rfl (w.heap.size+1) 6 0 rfl rfl _ X8 rfl ?_)
  try simp only [Exit.inBlock,Exit.then]
  refine bodyPost_ret (results_cell_row rfl _ _ (w.heap.size+1) 31 _ (0,0) _ rfl R9 Tryz.underlying31 rfl (by kernel_rfl)) rfl ?_;exact .inl ⟨HG.out,rfl,(F5.out.tr F8.out).trans FN.out fun i e=>.inr (by omega)⟩
 | some vv=>
  obtain ⟨i,p,hv0,hi0,hi1⟩:=HM.out.ids _ (xH hg);have hv:vv=yq i p:=hv0;clear hv0;subst hv;have HG:=zz hg;have HTN:=zz (show 0≤i∧i≤1073741824 from ⟨hi0,by have:=HM.out.tn.2; omega⟩);clear hg hi0 hi1;apply Lcl.region_alike (F:=DMid2 m q.name w1)
  case hr=>
   have y0:∀y:Lcl.InS (fun w'=>Fr (fun _=>False) w1 w'),y.w.cell? ⟨m.mb,0,none⟩=some (.pointer (some ⟨m.tb,0,none⟩)):=fun y=>y.h.cel ((zB HM.out.b 0).trans rfl)
   have y1:∀y:Lcl.InS (fun w'=>Fr (fun _=>False) w1 w'),y.w.cell? ⟨w.heap.size,1,none⟩=some (.string q.name):=fun y=>y.h.cel ((zB X0.out 1).trans rfl)
   have FD:=zz (Fr.same w1).drew;refine Lcl.wp_region_calm (by kernel_rfl) [(true,[0,1,2,4]),(false,[3,5])] #[0,1,3,7,0,16,63,127,255,255,511,2047] [0,1,2,3,4,5] 6 #[true,true,true,true,true,true,false,false,false,false,false,false] (by kernel_rfl) (by kernel_rfl) (by kernel_rfl) (fun w'=>Fr (fun _=>False) w1 w') (Fr.same w1).drew (fun d c a v w h=>by cases h.1) ?_;simp only [Lcl.opsOf,List.map_cons,List.map_nil,List.getElem?_toArray,List.getElem?_cons_succ,List.getElem?_cons_zero,Option.getD_some];refine Lcl.wpCalm_t ?_
   repeat (go_big_quiet_step (rfl))
   refine wpQuiet_nil ?_;refine Lcl.wpCalm_f ?_
   repeat (go_big_quiet_step (rfl))
   refine wpQuiet_nil ?_;refine Lcl.wpCalm_nil ?_;clear y0 y1;refine Lcl.wpG_one 6 rfl (by kernel_rfl) ?_;go_wp2_with fail
   refine (DW.out _ FD.out).mono ?_;rintro e w5 hcase;have FIN:=zz (show e=.returned (.tuple #[.int .i64 i,.int .i64 0])∧∀b,DMid2 m q.name w1 b w5 from by
    rcases hcase with ⟨i',p',h,he,ht,hf⟩ | ⟨h,-,-⟩
    ·have h9:=Option.some.inj (HG.out.symm.trans h)
     have hii:i=i':=by have:=congrArg jm h9; simpa [jM] using this
     subst hii;exact ⟨he,fun b=>⟨ht,(FD.out.mono (S':=fun i=>i=m.tmb) fun _ h=>h.elim).trans hf fun i e=>.inl e⟩⟩
    ·rw [HG.out] at h; cases h)
   have he:=FIN.out.1;subst he;have FIN:=zz FIN.out.2;clear hcase;obtain ⟨b0,hb0⟩:∃b0:Nat,b0=0:=⟨_,rfl⟩;go_wp2_with fail
   refine ⟨fun h=>absurd h (by decide),?_⟩;refine Lcl.wpG_one 7 rfl (by kernel_rfl) ?_;go_wp2_with fail
   refine ⟨fun h=>absurd h (by decide),?_⟩;refine Lcl.wpG_two 8 9 rfl rfl (by kernel_rfl) ?_ ?_
   ·go_wp2_with fail
    refine ⟨fun h=>absurd h (by decide),?_⟩;refine Lcl.wpG_two 9 10 rfl rfl (by kernel_rfl) ?_ ?_
    ·go_wp2_with fail
     refine ⟨fun h=>absurd h (by decide),?_⟩;refine Lcl.wpG_run [10,11] _ _ _ (by kernel_rfl) ?_;simp only [List.map_cons,List.map_nil,List.getElem?_toArray,List.getElem?_cons_succ,List.getElem?_cons_zero,Option.getD_some];go_wp2_with fail
     exact ⟨b0,rfl,FIN.out.2 b0⟩
    ·go_wp2_with fail
     refine ⟨fun h=>absurd h (by decide),?_⟩;refine Lcl.wpG_run [9,11] _ _ _ (by kernel_rfl) ?_;simp only [List.map_cons,List.map_nil,List.getElem?_toArray,List.getElem?_cons_succ,List.getElem?_cons_zero,Option.getD_some];go_wp2_with fail
     first | exact ⟨b0,FIN.out.2 b0⟩ | exact ⟨b0,rfl,FIN.out.2 b0⟩
   ·go_wp2_with fail
    refine ⟨fun h=>absurd h (by decide),?_⟩;refine Lcl.wpG_run [8,10,11] _ _ _ (by kernel_rfl) ?_;simp only [List.map_cons,List.map_nil,List.getElem?_toArray,List.getElem?_cons_succ,List.getElem?_cons_zero,Option.getD_some];go_wp2_with fail
    first | exact ⟨b0,FIN.out.2 b0⟩ | exact ⟨b0,rfl,FIN.out.2 b0⟩
  rintro b w5 hmid;unfold DMid2 at hmid;obtain ⟨ht5,f5⟩:=hmid;have hn1:=HM.out.n1;have F5:=zz f5;have T5:=zz ht5;have B5:=zz ((f5.block m.mb (zA HM.out.b) hn1.2.1).trans HM.out.b);have M5:=zz (HM.out.map.fr f5 (fun e=>HM0.out.n1.2.2.2.2 e.symm));have X5:=zz ((f5.block _ (zA X1.out) (fun e=>by have:=HM0.out.top.m.lt; omega)).trans X1.out);have X05:=zz ((f5.block _ (zA X0.out) (fun e=>by have:=HM0.out.top.m.lt; omega)).trans X0.out);clear ht5 f5 hn1;go_wp2_with fail
  go_loopw [20] (fun j wr=>∃k:Nat,j=.int .i64 k∧k≤16∧xT kf wr m.pm (jU (zIa m.L i k))∧Fr (fun j=>j=m.pm) w5 wr) (fun j _=>16 - (intOf j).toNat)
  case atStart=>exact ⟨0,rfl,Nat.zero_le _,M5.out,Fr.refl _ _⟩
  case round=>
   obtain ⟨k,rfl,hk,hmp,hf⟩:=hrel;have MW:=zz hmp;have FW:=zz hf;have BW:=zz ((hf.block m.mb (zA B5.out) HM0.out.n1.2.2.1).trans B5.out);have d3:=(zB BW.out 3).trans (show _=some (Value.map (some m.pm)) from rfl);clear hmp hf;rcases Nat.lt_or_ge k 16 with hlt | hge
   ·have htn:=HTN.out
    have PK:=zz (show zFr ⟨i,(k:Int)⟩ from ⟨by simp [Lit.wf,IntKind.min,IntKind.max,IntKind.signed,IntKind.bits]; omega,by simp [Lit.wf,IntKind.min,IntKind.max,IntKind.signed,IntKind.bits]; omega⟩);go_wp2_with (at_delete; refine zFc zGf _ rfl 81 87 Tryz.underlying81 (.tmp 26) (.tmp 29) rfl m.pm (jU (zIa m.L i k)) rfl MW.out ⟨i,(k:Int)⟩ rfl PK.out ?_)
    intro w7 hm7 hg7;rw [←zYr] at hm7;have M7:=zz (show xT kf w7 m.pm (jU (zIa m.L i (k+1))) from hm7);have F7:=zz (FW.out.grown hg7 fun x e=>.inl (by cases e; rfl));clear hm7 hg7;go_wp2_with fail
    go_roundw
    case rel=>exact ⟨k+1,by go_num,by omega,M7.out,F7.out⟩
    case measure=>simp [intOf]; omega
   ·obtain rfl:k=16:=by omega
    clear d3;have FS:=zz (show Fr (fun j=>j=m.tmb∨j=m.pm) w1 wr from (F5.out.mono (S':=fun j=>j=m.tmb∨j=m.pm) fun i e=>.inl (.inl e)).trans FW.out fun i e=>.inl (.inr e));have TW:=zz (T5.out.fr FW.out (fun e=>HM0.out.n1.2.2.2.1 e) (fun e=>HM0.out.n1.2.2.2.2 e));have CW:=zz (HC.out.fr FS.out fun i hi e=>HO.out i hi (.inl (e.elim (fun e=>.inr (.inr (.inl e))) fun e=>.inr (.inr (.inr e)))));have XW:=zz ((FW.out.block _ (zA X5.out) (fun e=>by have:=HM0.out.map.lt; omega)).trans X5.out);have X0W:=zz ((FW.out.block _ (zA X05.out) (fun e=>by have:=HM0.out.map.lt; omega)).trans X05.out);have MA:=zz (HM.out.less (yg m.L i 16) List.filter_sublist TW.out MW.out FS.out (fun e=>e.elim HM0.out.n1.2.1 HM0.out.n1.2.2.1) fun x hx i hi e=>HM0.out.off x ((yg m.L _ 16).subset hx) i hi (e.elim (fun e=>.inr (.inr (.inl e))) fun e=>.inr (.inr (.inr e))));have dcv:=(zB BW.out 1).trans (show _=some m.cv from rfl);rw [hcv] at dcv;go_wp2_with fail
    have y0:∀y:Lcl.InS (fun w'=>Fr (fun _=>False) wr w'),y.w.cell? ⟨m.mb,1,none⟩=some (.pointer (some ⟨c.cb,0,none⟩)):=fun y=>y.h.cel dcv
    have y1:∀y:Lcl.InS (fun w'=>Fr (fun _=>False) wr w'),y.w.cell? ⟨w.heap.size,1,none⟩=some (.string q.name):=fun y=>y.h.cel ((zB X0W.out 1).trans rfl)
    have FD:=zz (Fr.same wr).drew;refine Lcl.wp_region_calm (by kernel_rfl) [(true,[0,1,2,4]),(false,[3,5])] #[0,1,3,7,0,16,63] [0,1,2,3,4,5] 1 #[true,true,true,true,true,true,false] (by kernel_rfl) (by kernel_rfl) (by kernel_rfl) (fun w'=>Fr (fun _=>False) wr w') (Fr.same wr).drew (fun d c a v w h=>by cases d <;> exact h) ?_;simp only [Lcl.opsOf,List.map_cons,List.map_nil,List.getElem?_toArray,List.getElem?_cons_succ,List.getElem?_cons_zero,Option.getD_some];refine Lcl.wpCalm_t ?_
    repeat (go_big_quiet_step (rfl))
    refine wpQuiet_nil ?_;refine Lcl.wpCalm_f ?_
    repeat (go_big_quiet_step (rfl))
    refine wpQuiet_nil ?_;refine Lcl.wpCalm_nil ?_;clear y0 y1 dcv;have CD:=zz (CW.out.old FD.out);have MD:=zz (MA.out.old FD.out);have XD:=zz ((FD.out.block _ (zA XW.out) fun h=>h).trans XW.out);have FSD:=zz (zKi FS.out FD.out);generalize wr.drew=wd at *;have KW:=zz (zRx CD.out q.name);refine Lcl.wpG_run [6] _ _ _ (by kernel_rfl) ?_;simp only [List.map_cons,List.map_nil,List.getElem?_toArray,List.getElem?_cons_succ,List.getElem?_cons_zero,Option.getD_some];go_wp2_with fail
    refine KW.out.mono ?_;rintro e w7 ⟨⟨n7,rfl⟩,hst⟩;have ST:=zz hst;have hrb:¬c.T (w.heap.size+1):=fun h=>by have:=HC0.out.Tlow h; omega
    have X3:=zz ((hst.2.2.2.block _ (zA XD.out) hrb).trans XD.out);clear hst KW hrb;go_wp2_with fail
    refine (yB i _).mono ?_;rintro e w8 ⟨rfl,hf8⟩;have X8:=(hf8.block _ (zA X3.out) fun h=>h).trans X3.out;have R9:=setRow_heap w8 (w.heap.size+1) _ (zS 0 i 0 0 0 0 0 (.slice none 0 0) (.slice none 0 0) (.slice none 0 0)) 31 (0,0) X8;have FN:=zz (zZ ((Fr.same w8).mono (S':=fun i=>i=w.heap.size+1) fun _ h=>h.elim) (g:=w.heap.size+1) (.inl rfl) (zS 0 i 0 0 0 0 0 (.slice none 0 0) (.slice none 0 0) (.slice none 0 0)));have F8:=zz hf8;clear hf8;go_wp2_with (refine zJ rfl _ _ rfl (w.heap.size+1) 0 i rfl rfl _ X8 rfl ?_)
    try simp only [Exit.inBlock,Exit.then]
    refine bodyPost_ret (results_cell_row rfl _ _ (w.heap.size+1) 31 _ (0,0) _ rfl R9 Tryz.underlying31 rfl (by kernel_rfl)) rfl ?_;refine .inr ⟨i,p,_,HG.out,rfl,((MD.out.fr ST.out.2.2.2 (fun j hj h=>HO.out j h (.inl hj)) fun x hx j hj h=>HO.out j h (.inr ⟨x,(yg m.L i 16).subset hx,hj⟩)).old F8.out).fr FN.out (fun j hj e=>?_) (fun x hx j hj e=>?_),(ST.out.1.old F8.out).fr FN.out fun j hj e=>?_,rfl,?_⟩
    ·have:=HM0.out.low.1 j hj; omega
    ·have:=HM0.out.low.2 x ((yg m.L i 16).subset hx) j hj; omega
    ·rcases ST.out.2.2.1 j hj with h | h
     ·have:=HC0.out.Tlow h; omega
     ·have:=FSD.out.size; have:=L1.out; omega
    ·exact ((((F1.out.mono (S':=fun j=>j=m.tmb∨j=m.pm∨c.T j) fun _ h=>h.elim).trans FSD.out fun i e=>.inl (e.elim .inl fun e=>.inr (.inl e))).trans ST.out.2.2.2 fun i h=>.inl (.inr (.inr h))).trans F8.out fun _ h=>h.elim).trans FN.out fun i e=>.inr (by omega)
end
section
variable {w w':World} {S:Nat→Prop}
end
section
variable {w w':World} {S:Nat→Prop}
end
section
variable {H:Type} {enc:TypeId × Value→H} {W:World} {spare:Nat→Bool} {held:Bool}
theorem q50e:Tryz.prog.cellsOf 50=20:=by kernel_rfl
theorem q39e:Tryz.prog.cellsOf 39=1:=by kernel_rfl
theorem optT_top (b:Bat):(uU b).size≤60008:=by
 unfold uU;split
 ·decide
 ·split
  ·rename_i hb; exact zCo hb
  ·decide
theorem zUf {z:DataW H × List MemPlace} {s:ByteArray} (hz:z=(.lit (.string s.data.toList),[])) (hw:∀n∈z.1.weights Tryz.prog 9,n≤reachBytes):s.size≤150000000000000:=by
 have h2:=hw s.data.toList.length (by rw [hz]; simp [DataW.weights]);have h3:s.data.toList.length=s.size:=by rw [Array.length_toList]; rfl
 rw [h3] at h2;unfold reachBytes at h2;omega
theorem zSe {m:Nat} {cs:List Value} {x:DataW H × List MemPlace} (h:DataW.trod enc Tryz.prog W 0 spare held m 50 cs=some x) (hlen:cs.length=20) (hw:∀n∈x.1.weights Tryz.prog 50,n≤reachBytes):
  ∃q ks tl rv kv tv,cs.toArray=zT q rv kv tv∧zIq W q ks tl rv kv tv:=by
 obtain ⟨xs,n',_,hx,hcl,hxl,hf⟩:=DataW.trod_struct Tryz.underlying50 h;have hx12:xs.length=12:=hxl.trans (by kernel_rfl);clear hxl
 match cs,hlen,xs,hx12 with
 | [v0,v1,v2,v3,v4,v5,v6,v7,v8,v9,v10,v11,v12,v13,v14,v15,v16,v17,v18,v19],_,[z0,z1,z2,z3,z4,z5,z6,z7,z8,z9,z10,z11],_=>
  have t0:=hf 0;have t1:=hf 1;have t2:=hf 2;have t3:=hf 3;have t4:=hf 4;have t5:=hf 5;have t6:=hf 6;have t7:=hf 7;have t8:=hf 8;have t9:=hf 9;have t10:=hf 10;have t11:=hf 11;simp [q3,q4,q9,q24,q38e,q39e] at t0 t1 t2 t3 t4 t5 t6 t7 t8 t9 t10 t11;subst hx;have w1:∀n∈z1.1.weights Tryz.prog 9,n≤reachBytes:=fun n hn=>hw n (by
   simp only [DataW.weights,Tryz.underlying50];exact DataW.weights_mem_each (j:=1) rfl rfl n hn)
  have w8:∀n∈z8.1.weights Tryz.prog 9,n≤reachBytes:=fun n hn=>hw n (by
   simp only [DataW.weights,Tryz.underlying50];exact DataW.weights_mem_each (j:=8) rfl rfl n hn)
  have w11:∀n∈z11.1.weights Tryz.prog 39,n≤reachBytes:=fun n hn=>hw n (by
   simp only [DataW.weights,Tryz.underlying50];exact DataW.weights_mem_each (j:=11) rfl rfl n hn)
  obtain ⟨a0,e0,-,f0⟩:=DataW.trod_int Tryz.underlying3 t0;obtain ⟨a1,e1,g1,-⟩:=DataW.trod_string Tryz.underlying9 t1;obtain ⟨a2,e2,-,f2⟩:=DataW.trod_int Tryz.underlying3 t2;obtain ⟨a3,e3,-,f3⟩:=DataW.trod_int Tryz.underlying3 t3;obtain ⟨a4,e4,-,f4⟩:=DataW.trod_int Tryz.underlying3 t4;obtain ⟨a5,e5,-⟩:=DataW.trod_bool Tryz.underlying4 t5;obtain ⟨a8,e8,g8,-⟩:=DataW.trod_string Tryz.underlying9 t8;obtain ⟨a9,e9,-,f9⟩:=DataW.trod_int Tryz.underlying3 t9;obtain ⟨a10,e10,-,f10⟩:=DataW.trod_int Tryz.underlying3 t10;obtain ⟨tl,htl⟩:=strs_of t11 w11;obtain ⟨bs,n9,_,_,hcl9,hxl9,hf9⟩:=DataW.trod_struct Tryz.underlying35 t6;have hz6:bs.length=6:=hxl9.trans (by kernel_rfl);clear hxl9;obtain ⟨xs7,n7,_,_,hcl7,hxl7,hf7⟩:=DataW.trod_struct Tryz.underlying38 t7;have hz7:xs7.length=4:=hxl7.trans (by kernel_rfl);clear hxl7
  match bs,hz6,xs7,hz7 with
  | [b0,b1,b2,b3,b4,b5],_,[x0,x1,x2,x3],_=>
   have u0:=hf9 0;have u1:=hf9 1;have u2:=hf9 2;have u3:=hf9 3;have u4:=hf9 4;have u5:=hf9 5;simp [q3,q22] at u0 u1 u2 u3 u4 u5;have s0:=hf7 0;have s1:=hf7 1;have s2:=hf7 2;have s3:=hf7 3;simp [q3,q9,q36e] at s0 s1 s2 s3;obtain ⟨c0,i0,-,-⟩:=DataW.trod_int Tryz.underlying3 u0;obtain ⟨c1,i1,-,-⟩:=DataW.trod_int Tryz.underlying3 u1;obtain ⟨c2,i2,-,-⟩:=DataW.trod_int Tryz.underlying3 u2;obtain ⟨c3,i3,-,-⟩:=DataW.trod_int Tryz.underlying3 u3;obtain ⟨c4,i4,-,-⟩:=DataW.trod_int Tryz.underlying3 u4;obtain ⟨rs,hr⟩:=recs_of u5;obtain ⟨d0,j0,-,-⟩:=DataW.trod_int Tryz.underlying3 s0;obtain ⟨d1,j1,-,-⟩:=DataW.trod_string Tryz.underlying9 s1;obtain ⟨d2,j2,-,-⟩:=DataW.trod_string Tryz.underlying9 s2;obtain ⟨ks,hks⟩:=kids_of _ s3;simp only [List.cons.injEq,and_true] at e0 e1 e2 e3 e4 e5 e8 e9 e10 i0 i1 i2 i3 i4 j0 j1 j2;subst e0 e1 e2 e3 e4 e5 e8 e9 e10 i0 i1 i2 i3 i4 j0 j1 j2;have h1:=zUf g1 w1;have h8:=zUf g8 w8;refine ⟨⟨a0,a1,a2,a3,a4,a5,⟨c0,c1,c2,c3,c4,rs⟩,d0,d1,d2,a8,a9,a10⟩,ks,tl,v11,v15,v19,rfl,⟨hr.mono fun b _ h=>h,hks,htl,⟨f0,f2,f3,f4,f9,f10,by show a1.size≤_; omega,by show a8.size≤_; omega,optT_top _⟩⟩⟩
end
section
variable {w w':World} {S:Nat→Prop} {K K2:Nat→Prop}
def vQ:List Hdr→ByteArray→Option ByteArray
 | [],_=>none
 | h::r,nm=>if h.key.toList=nm.toList then some h.val else vQ r nm
def HeadPost (v:Option ByteArray) (w:World) (e:Ending) (w':World):Prop:=e=.returned (.tuple #[.string (v.getD ⟨#[]⟩),.bool v.isSome])∧Fr (fun _=>False) w w'
theorem zIb (h:Hdr) (r:List Hdr) (nm:ByteArray):vQ (h::r) nm=if h.key.toList=nm.toList then some h.val else vQ r nm:=rfl
theorem zFd (r:Rec) (hv:Value) (nm:ByteArray) (hh:xi K w hv r.hs) (hl:r.hs.length≤1000):Calls Tryz.prog 152 #[xy r hv,.string nm] w (HeadPost (vQ r.hs nm) w):=by
 obtain ⟨ho,hc,rfl,-⟩:=id hh;have F1:=zz ((Fr.same w).alloc (.cells #[.int .i64 r.at',.int .i64 r.tm,.bool r.bare,.string r.key,.bool r.gone,.string r.val,.slice ho r.hs.length hc] 95));have X1:=zz (zC w (.cells #[.int .i64 r.at',.int .i64 r.tm,.bool r.bare,.string r.key,.bool r.gone,.string r.val,.slice ho r.hs.length hc] 95));have HW:=zz hh;have dx:=zB X1.out;unfold xy;clear hh;go_enter Tryz.func152,Tryz.ntmps152
 go_wp2_with fail
 generalize (w.alloc (.cells #[.int .i64 r.at',.int .i64 r.tm,.bool r.bare,.string r.key,.bool r.gone,.string r.val,.slice ho r.hs.length hc] 95))=w1 at *;clear dx;go_loopw [11] (fun i wr=>∃k:Nat,i=.int .i64 k∧k≤r.hs.length∧vQ r.hs nm=vQ (r.hs.drop k) nm∧Fr (fun _=>False) w1 wr) (fun i _=>r.hs.length - (intOf i).toNat)
 case atStart=>exact ⟨0,rfl,Nat.zero_le _,by rw [List.drop_zero],Fr.same _⟩
 case round=>
  obtain ⟨k,rfl,hk,hall,hF⟩:=hrel;have FF:=zz (F1.out.tr hF);have FW:=zz hF;have ALL:=zz hall;clear hF hall;rcases Nat.lt_or_ge k r.hs.length with hlt | hge
  ·obtain ⟨x,hx⟩:=zH hlt
   obtain ⟨oa',cap',hsl,hab⟩:=HW.out.old FF.out;injection hsl with e1 e2 e3
   subst e1;obtain ⟨a,rfl,-,c0,c1⟩:=hab k x hx;have hd:r.hs.drop k=x::r.hs.drop (k+1):=by
    rw [List.drop_eq_getElem_cons hlt];congr 1
    have:=List.getElem?_eq_getElem hlt
    rw [hx] at this;exact (Option.some.inj this).symm
   have fa:=(Fr.same wr).alloc (.cells #[.string x.key,.string x.val] 97);have dy:=zD wr #[.string x.key,.string x.val] 97;have FA:=zz (FF.out.tr fa);have FB:=zz (FW.out.tr fa);have HD:=zz hd;clear fa hd hx hab e2 e3;by_cases heq:x.key.toList=nm.toList
   ·have E:=zz (show vQ r.hs nm=some x.val by rw [ALL.out,HD.out,zIb,if_pos heq])
    have hbq:(x.key.toList == nm.toList)=true:=by simpa using heq
    go_wp2_with fail
    go_ret2
    exact ⟨by rw [E.out]; rfl,FA.out⟩
   ·have E:=zz (show vQ r.hs nm=vQ (r.hs.drop (k+1)) nm by rw [ALL.out,HD.out,zIb,if_neg heq])
    have hbq:(x.key.toList == nm.toList)=false:=by simpa using heq
    go_wp2_with fail
    go_roundw
    case rel=>exact ⟨k+1,by go_num,by omega,E.out,FB.out⟩
    case measure=>simp [intOf]; omega
  ·obtain rfl:k=r.hs.length:=by omega
   have E:=zz (show vQ r.hs nm=none by rw [ALL.out,List.drop_length]; rfl);go_wp2_with fail
   go_ret2
   exact ⟨by rw [E.out]; rfl,FF.out⟩
end
section
variable {w w':World} {S:Nat→Prop} {K K2:Nat→Prop}
def zBy (hasW:ByteArray→ByteArray→Bool) (op:Int) (nm vl:ByteArray) (a:Bool→Bool) (r:Rec):Bool:=
 if op=1 then !a false else if op=3 then a false else if op=2 then a true
 else if op=4 then (vQ r.hs nm).isSome else if op=5 then (vQ r.hs nm).any fun v=>v.toList == vl.toList
 else if op=6 then !r.bare && Lib.hasPrefix r.key.data.toList vl.data.toList else if op=7 then !r.gone && hasW r.val vl else true
def kT (hasW:ByteArray→ByteArray→Bool):Fst→Bool→Rec→Bool
 | .nil,_,_=>false
 | .cons op nm vl ks rest,pos,r=>(zBy hasW op nm vl (fun p=>kT hasW ks p r) r == pos) || kT hasW rest pos r
def xo (hasW:ByteArray→ByteArray→Bool) (op:Int) (nm vl:ByteArray) (ks:Fst) (r:Rec):Bool:=zBy hasW op nm vl (fun p=>kT hasW ks p r) r
theorem zAy (hasW:ByteArray→ByteArray→Bool) (op:Int) (nm vl:ByteArray) (ks rest:Fst) (pos:Bool) (r:Rec):kT hasW (.cons op nm vl ks rest) pos r=((xo hasW op nm vl ks r == pos) || kT hasW rest pos r):=rfl
def Fst.small:Fst→Prop
 | .nil=>True
 | .cons _ _ vl ks rest=>vl.size≤100000∧ks.small∧rest.small
theorem Fst.small_drop:∀ {F:Fst} (k:Nat),F.small→(F.drop k).small
 | F,0,h=>by rw [Fst.drop_zero]; exact h
 | .nil,k+1,_=>trivial
 | .cons _ _ _ _ r,k+1,h=>Fst.small_drop (F:=r) k h.2.2
def SmK (ks:Fst) (r:Rec):Prop:=ks.small∧r.val.size≤100000
def SmE (vl:ByteArray) (ks:Fst) (r:Rec):Prop:=vl.size≤100000∧SmK ks r
theorem SmK.at {ks:Fst} {r:Rec} (h:SmK ks r) {k:Nat} {op:Int} {nm vl:ByteArray} {xs rest:Fst} (hd:ks.drop k=.cons op nm vl xs rest):SmE vl xs r:=by
 have h1:=Fst.small_drop k h.1;rw [hd] at h1;exact ⟨h1.1,h1.2.1,h.2⟩
def zIc (hasW:ByteArray→ByteArray→Bool) (C:World→Prop):Prop:=∀(w:World) (s t:ByteArray),C w→s.size≤100000→t.size≤100000→Calls Tryz.prog 154 #[.string s,.string t] w (xG (hasW s t) w)
def ue (hasW:ByteArray→ByteArray→Bool) (C:World→Prop) (K K2:Nat→Prop) (B m:Nat):Prop:=∀(ks:Fst) (op:Int) (nm vl:ByteArray) (kv:Value) (r:Rec) (hv:Value) (w:World),ks.sz < m→xV K w kv ks→xi K2 w hv r.hs→r.hs.length≤1000→SmE vl ks r→B≤w.heap.size→C w→
 Calls Tryz.prog 94 #[exV op nm vl kv,xy r hv] w (xG (xo hasW op nm vl ks r) w)
def ka (w:World) (b:Nat) (r:Rec) (hv:Value):Prop:=w.heap[b]?=some (.cells #[.int .i64 r.at',.int .i64 r.tm,.bool r.bare,.string r.key,.bool r.gone,.string r.val,hv] 95 (0,0))
theorem ka.old {b:Nat} {r:Rec} {hv:Value} (h:ka w b r hv) (hf:Fr (fun _=>False) w w'):ka w' b r hv:=blk h hf fun h=>h
theorem zYs {hasW:ByteArray→ByteArray→Bool} {C:World→Prop} {B m:Nat} (ih:ue hasW C K K2 B m) (hC:∀w w',C w→Fr (fun _=>False) w w'→C w') (xs:Fst) (op1:Int) (nm1 vl1:ByteArray) (kv:Value) (r:Rec) (hv:Value) (b:Nat) (hm:xs.sz < m) (hk:xV K w kv xs) (hh:xi K2 w hv r.hs) (hl:r.hs.length≤1000) (hz:SmE vl1 xs r) (hB:B≤w.heap.size) (hc:C w) (hb:ka w b r hv):
  Calls Tryz.prog 149 #[exV op1 nm1 vl1 kv,.pointer (some ⟨b,0,none⟩)] w (xG (xo hasW op1 nm1 vl1 xs r) w):=by
 obtain ⟨oa1,cap1,rfl,-⟩:=id hk;obtain ⟨ho,hc2,rfl,-⟩:=id hh;have f1:=(Fr.same w).alloc (.cells #[.int .i64 op1,.string nm1,.string vl1,.slice oa1 xs.len cap1] 38);have X1:=zC w (.cells #[.int .i64 op1,.string nm1,.string vl1,.slice oa1 xs.len cap1] 38);have IH:=zz (ih xs op1 nm1 vl1 _ r _ _ hm (hk.old f1) (hh.old f1) hl hz (Nat.le_trans hB f1.size) (hC _ _ hc f1));have F1:=zz f1;have dx:=zB X1;have db:=zB (hb.old f1);unfold exV xy at IH;unfold exV;clear f1 X1 hk hh hb hc;go_enter Tryz.func149,Tryz.ntmps149
 go_wp2_with fail
 refine IH.out.mono ?_;rintro e w2 ⟨rfl,f2⟩;have F2:=zz (F1.out.tr f2);clear f2 IH dx db;go_wp2_with fail
 go_ret
 exact ⟨rfl,F2.out⟩
theorem zYt {hasW:ByteArray→ByteArray→Bool} {C:World→Prop} {B m:Nat} (ih:ue hasW C K K2 B m) (hC:∀w w',C w→Fr (fun _=>False) w w'→C w') (xs:Fst) (op1:Int) (nm1 vl1:ByteArray) (kv:Value) (r:Rec) (hv:Value) (b:Nat) (hm:xs.sz < m) (hk:xV K w kv xs) (hh:xi K2 w hv r.hs) (hl:r.hs.length≤1000) (hz:SmE vl1 xs r) (hB:B≤w.heap.size) (hc:C w) (hb:ka w b r hv):
  Calls Tryz.prog 150 #[exV op1 nm1 vl1 kv,.pointer (some ⟨b,0,none⟩)] w (xG (!xo hasW op1 nm1 vl1 xs r) w):=by
 obtain ⟨oa1,cap1,rfl,-⟩:=id hk;obtain ⟨ho,hc2,rfl,-⟩:=id hh;have f1:=(Fr.same w).alloc (.cells #[.int .i64 op1,.string nm1,.string vl1,.slice oa1 xs.len cap1] 38);have X1:=zC w (.cells #[.int .i64 op1,.string nm1,.string vl1,.slice oa1 xs.len cap1] 38);have IH:=zz (ih xs op1 nm1 vl1 _ r _ _ hm (hk.old f1) (hh.old f1) hl hz (Nat.le_trans hB f1.size) (hC _ _ hc f1));have F1:=zz f1;have dx:=zB X1;have db:=zB (hb.old f1);unfold exV xy at IH;unfold exV;clear f1 X1 hk hh hb hc;go_enter Tryz.func150,Tryz.ntmps150
 go_wp2_with fail
 refine IH.out.mono ?_;rintro e w2 ⟨rfl,f2⟩;have F2:=zz (F1.out.tr f2);clear f2 IH dx db;go_wp2_with fail
 go_ret
 exact ⟨rfl,F2.out⟩
def zUg (b:Bool) (w:World) (e:Ending) (w':World):Prop:=∃i:Int,e=.returned (.int .i64 i)∧(0≤i↔b=true)∧Fr (fun _=>False) w w'
theorem zYu {hasW:ByteArray→ByteArray→Bool} {C:World→Prop} {B m:Nat} (ih:ue hasW C K K2 B m) (hC:∀w w',C w→Fr (fun _=>False) w w'→C w') (ks:Fst) (kv:Value) (r:Rec) (hv:Value) (b:Nat) (hm:ks.sz≤m) (hk:xV K w kv ks) (hh:xi K2 w hv r.hs) (hl:r.hs.length≤1000) (hz:SmK ks r) (hB:B≤w.heap.size) (hc:C w) (hb:ka w b r hv):
  Calls Tryz.prog 215 #[kv,.func (.func 149) #[] #[.pointer (some ⟨b,0,none⟩)]] w (zUg (kT hasW ks true r) w):=by
 have hml:=hk.len;unfold maxLen at hml;obtain ⟨oa,cap,rfl,-⟩:=id hk;have KW:=zz hk;have HW:=zz hh;have RB:=zz hb;have CW:=zz hc;clear hk hh hb hc;go_enter Tryz.func215,Tryz.ntmps215
 go_wp2_with fail
 go_loopw [8] (fun i wr=>∃k:Nat,i=.int .i64 k∧k≤ks.len∧kT hasW ks true r=kT hasW (ks.drop k) true r∧Fr (fun _=>False) w wr) (fun i _=>ks.len - (intOf i).toNat)
 case atStart=>exact ⟨0,rfl,Nat.zero_le _,by rw [Fst.drop_zero],Fr.same _⟩
 case round=>
  obtain ⟨k,rfl,hk,hall,hF⟩:=hrel;have FF:=zz hF;have ALL:=zz hall;clear hF hall;rcases Nat.lt_or_ge k ks.len with hlt | hge
  ·obtain ⟨op1,nm1,vl1,xs,hd,hsz⟩:=ks.drop_at k hlt
   obtain ⟨a,kv1,rfl,hKa,hpt,hkid⟩:=(KW.out.old FF.out).at hd hlt;obtain ⟨c0,c1,c2,c3⟩:=hpt;have LW:=zz (zYs ih hC xs op1 nm1 vl1 kv1 r hv b (by omega) hkid (HW.out.old FF.out) hl (hz.at hd) (Nat.le_trans hB FF.out.size) (hC _ _ CW.out FF.out) (RB.out.old FF.out));obtain ⟨oa1,cap1,rfl,-⟩:=id hkid;have HD:=zz hd;unfold exV at LW;clear hkid hd;go_wp2_with fail
   refine LW.out.mono ?_;rintro e w4 ⟨rfl,f4⟩;have F4:=zz (FF.out.tr f4);clear f4 LW c0 c1 c2 c3;obtain ⟨lb,hlb⟩:∃lb,lb=xo hasW op1 nm1 vl1 xs r:=⟨_,rfl⟩;rw [←hlb];have HLB:=zz hlb;clear hlb;cases lb with
   | true=>
    go_wp2_with fail
    go_ret
    refine ⟨_,rfl,?_,F4.out⟩;rw [ALL.out,HD.out,zAy,←HLB.out];simp
   | false=>
    go_wp2_with fail
    go_roundw
    case rel=>exact ⟨k+1,by go_num,by omega,by rw [ALL.out,HD.out,zAy,←HLB.out]; simp,F4.out⟩
    case measure=>simp [intOf]; omega
  ·obtain rfl:k=ks.len:=by omega
   go_wp2_with fail
   go_ret
   refine ⟨_,rfl,?_,FF.out⟩;rw [ALL.out,Fst.drop_end];simp [kT]
theorem zMf {hasW:ByteArray→ByteArray→Bool} {C:World→Prop} {B m:Nat} (ih:ue hasW C K K2 B m) (hC:∀w w',C w→Fr (fun _=>False) w w'→C w') (ks:Fst) (kv:Value) (r:Rec) (hv:Value) (b:Nat) (hm:ks.sz≤m) (hk:xV K w kv ks) (hh:xi K2 w hv r.hs) (hl:r.hs.length≤1000) (hz:SmK ks r) (hB:B≤w.heap.size) (hc:C w) (hb:ka w b r hv):
  Calls Tryz.prog 151 #[kv,.func (.func 149) #[] #[.pointer (some ⟨b,0,none⟩)]] w (xG (kT hasW ks true r) w):=by
 have IW:=zz (zYu ih hC ks kv r hv b hm hk hh hl hz hB hc hb);obtain ⟨oa,cap,rfl,-⟩:=id hk;clear hk hh hb hc;go_enter Tryz.func151,Tryz.ntmps151
 go_wp2_with fail
 refine IW.out.mono ?_;rintro e w2 ⟨i,rfl,hi,f2⟩;have HI:=zz hi;have F2:=zz f2;clear hi f2 IW;go_wp2_with fail
 go_ret
 refine ⟨?_,F2.out⟩;have e:kT hasW ks true r=decide (0≤i):=by
  by_cases h:0≤i
  ·rw [HI.out.1 h,decide_eq_true h]
  ·rw [decide_eq_false h]
   cases h2:kT hasW ks true r with
   | false=>rfl
   | true=>exact absurd (HI.out.2 h2) h
 rw [e];rfl
theorem zYv {hasW:ByteArray→ByteArray→Bool} {C:World→Prop} {B m:Nat} (ih:ue hasW C K K2 B m) (hC:∀w w',C w→Fr (fun _=>False) w w'→C w') (ks:Fst) (kv:Value) (r:Rec) (hv:Value) (b:Nat) (hm:ks.sz≤m) (hk:xV K w kv ks) (hh:xi K2 w hv r.hs) (hl:r.hs.length≤1000) (hz:SmK ks r) (hB:B≤w.heap.size) (hc:C w) (hb:ka w b r hv):
  Calls Tryz.prog 215 #[kv,.func (.func 150) #[] #[.pointer (some ⟨b,0,none⟩)]] w (zUg (kT hasW ks false r) w):=by
 have hml:=hk.len;unfold maxLen at hml;obtain ⟨oa,cap,rfl,-⟩:=id hk;have KW:=zz hk;have HW:=zz hh;have RB:=zz hb;have CW:=zz hc;clear hk hh hb hc;go_enter Tryz.func215,Tryz.ntmps215
 go_wp2_with fail
 go_loopw [8] (fun i wr=>∃k:Nat,i=.int .i64 k∧k≤ks.len∧kT hasW ks false r=kT hasW (ks.drop k) false r∧Fr (fun _=>False) w wr) (fun i _=>ks.len - (intOf i).toNat)
 case atStart=>exact ⟨0,rfl,Nat.zero_le _,by rw [Fst.drop_zero],Fr.same _⟩
 case round=>
  obtain ⟨k,rfl,hk,hall,hF⟩:=hrel;have FF:=zz hF;have ALL:=zz hall;clear hF hall;rcases Nat.lt_or_ge k ks.len with hlt | hge
  ·obtain ⟨op1,nm1,vl1,xs,hd,hsz⟩:=ks.drop_at k hlt
   obtain ⟨a,kv1,rfl,hKa,hpt,hkid⟩:=(KW.out.old FF.out).at hd hlt;obtain ⟨c0,c1,c2,c3⟩:=hpt;have LW:=zz (zYt ih hC xs op1 nm1 vl1 kv1 r hv b (by omega) hkid (HW.out.old FF.out) hl (hz.at hd) (Nat.le_trans hB FF.out.size) (hC _ _ CW.out FF.out) (RB.out.old FF.out));obtain ⟨oa1,cap1,rfl,-⟩:=id hkid;have HD:=zz hd;unfold exV at LW;clear hkid hd;go_wp2_with fail
   refine LW.out.mono ?_;rintro e w4 ⟨rfl,f4⟩;have F4:=zz (FF.out.tr f4);clear f4 LW c0 c1 c2 c3;obtain ⟨lb,hlb⟩:∃lb,lb=xo hasW op1 nm1 vl1 xs r:=⟨_,rfl⟩;rw [←hlb];have HLB:=zz hlb;clear hlb;cases lb with
   | false=>
    go_wp2_with fail
    go_ret
    refine ⟨_,rfl,?_,F4.out⟩;rw [ALL.out,HD.out,zAy,←HLB.out];simp
   | true=>
    go_wp2_with fail
    go_roundw
    case rel=>exact ⟨k+1,by go_num,by omega,by rw [ALL.out,HD.out,zAy,←HLB.out]; simp,F4.out⟩
    case measure=>simp [intOf]; omega
  ·obtain rfl:k=ks.len:=by omega
   go_wp2_with fail
   go_ret
   refine ⟨_,rfl,?_,FF.out⟩;rw [ALL.out,Fst.drop_end];simp [kT]
theorem zDh {hasW:ByteArray→ByteArray→Bool} {C:World→Prop} {B m:Nat} (ih:ue hasW C K K2 B m) (hC:∀w w',C w→Fr (fun _=>False) w w'→C w') (ks:Fst) (kv:Value) (r:Rec) (hv:Value) (b:Nat) (hm:ks.sz≤m) (hk:xV K w kv ks) (hh:xi K2 w hv r.hs) (hl:r.hs.length≤1000) (hz:SmK ks r) (hB:B≤w.heap.size) (hc:C w) (hb:ka w b r hv):
  Calls Tryz.prog 151 #[kv,.func (.func 150) #[] #[.pointer (some ⟨b,0,none⟩)]] w (xG (kT hasW ks false r) w):=by
 have IW:=zz (zYv ih hC ks kv r hv b hm hk hh hl hz hB hc hb);obtain ⟨oa,cap,rfl,-⟩:=id hk;clear hk hh hb hc;go_enter Tryz.func151,Tryz.ntmps151
 go_wp2_with fail
 refine IW.out.mono ?_;rintro e w2 ⟨i,rfl,hi,f2⟩;have HI:=zz hi;have F2:=zz f2;clear hi f2 IW;go_wp2_with fail
 go_ret
 refine ⟨?_,F2.out⟩;have e:kT hasW ks false r=decide (0≤i):=by
  by_cases h:0≤i
  ·rw [HI.out.1 h,decide_eq_true h]
  ·rw [decide_eq_false h]
   cases h2:kT hasW ks false r with
   | false=>rfl
   | true=>exact absurd (HI.out.2 h2) h
 rw [e];rfl
end
end Go.Proofs.YtfdhofabgdkkkaaGreatDoor
