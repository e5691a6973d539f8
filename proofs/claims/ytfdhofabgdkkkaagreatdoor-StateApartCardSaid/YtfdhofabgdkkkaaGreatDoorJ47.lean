/- A part of the proof that what the machine is told keeps its bounds. -/
import Derived.Test.YtfdhofabgdkkkaaGreatDoorJ46
set_option maxHeartbeats 128000000
set_option maxRecDepth 100000
namespace Go.Proofs.YtfdhofabgdkkkaaGreatDoor
open Lib renaming hid→zz
open Go.RowKit Go.Fm Go.BigFrame Go.Shelf Go.Maps
set_option linter.unusedVariables false
set_option linter.unusedSimpArgs false
section
variable {w w':World} {S:Nat→Prop} {tb mb:Nat} {next:Int} {L:List (ByteArray × Value)}
def yc (L:List (ByteArray × Value)) (k:ByteArray) (parts:Int):Int:=if k.size=0∨parts < 1∨16 < parts then 1 else if (zk L k).isSome=true then 14 else if 20≤L.length then 5 else 0
def TNoPost (er:Int) (w:World) (e:Ending) (w':World):Prop:=e=.returned (.tuple #[.int .i64 0,.int .i64 er])∧Fr (fun _=>False) w w'
theorem zSj (h:uR w tb mb next L) (k:ByteArray) (parts:Int) (hk2:k.size≤100) (hL:L.length≤20) (hne:yc L k parts≠0):Calls Tryz.prog 70 #[.pointer (some ⟨tb,0,none⟩),.string k,.int .i64 parts] w (TNoPost (yc L k parts) w):=by
 have c1:w.cell? ⟨tb,1,none⟩=some (.map (some mb)):=(zB h.b 1).trans rfl;have hlk:=h.look (k:=k) (by unfold maxLen; omega);have fa:=(Fr.same w).alloc (.cells #[.int .i64 0,.int .i64 0] 158);have FA:=zz fa;have hln:=(h.old fa).m.len 140 3 ⟨158,Tryz.underlying140⟩;have k1:=fa.cel c1;have n1:¬(100:Int) < (k.size:Int):=by omega
 clear fa;by_cases hk0:k.size=0
 ·have hn5:k.toList.isEmpty=true:=by rw [(zDe k).2 hk0]; rfl
  have RR:=zz (show yc L k parts=1 from if_pos (.inl hk0));clear h hk0 hne hlk hln;go_enter Tryz.func70,Tryz.ntmps70
  go_wp2_with fail
  go_ret2
  exact ⟨by rw [RR.out]; rfl,Fr.same _⟩
 have hne5:¬k.toList=[]:=fun e=>hk0 ((zDe k).1 e)
 have hn5:k.toList.isEmpty=false:=by simpa using hne5
 have HK0:=zz hk0;clear hk0 hne5;by_cases hp:parts < 1
 ·have RR:=zz (show yc L k parts=1 from if_pos (.inr (.inl hp)))
  clear h hne hlk hln;go_enter Tryz.func70,Tryz.ntmps70
  go_wp2_with fail
  go_ret2
  exact ⟨by rw [RR.out]; rfl,Fr.same _⟩
 by_cases hp2:16 < parts
 ·have RR:=zz (show yc L k parts=1 from if_pos (.inr (.inr hp2)))
  clear h hne hlk hln;go_enter Tryz.func70,Tryz.ntmps70
  go_wp2_with fail
  go_ret2
  exact ⟨by rw [RR.out]; rfl,Fr.same _⟩
 have R1:=zz (show yc L k parts=if (zk L k).isSome=true then 14 else if 20≤L.length then 5 else 0 from if_neg (fun h=>h.elim HK0.out fun h=>h.elim hp hp2));cases hg:zk L k with
 | some vv=>
  obtain ⟨i,p,hv0⟩:=h.el _ (xH hg);have hv:vv=yq i p:=hv0;clear hv0;subst hv;rw [hg] at hlk;dsimp only [Option.getD,Option.isSome] at hlk;unfold yq at hlk;have RR:=zz (show yc L k parts=14 from by rw [R1.out,hg]; rfl);clear h hne hg hln;go_enter Tryz.func70,Tryz.ntmps70
  go_wp2_with fail
  go_ret2
  exact ⟨by rw [RR.out]; rfl,(Fr.same w).alloc _⟩
 | none=>
  rw [hg] at hlk;dsimp only [Option.getD,Option.isSome] at hlk;unfold yq at hlk;have hfull:20≤L.length:=Decidable.byContradiction fun hf=>hne (by rw [R1.out,hg,if_neg (by decide),if_neg hf])
  have g1:decide ((20:Int)≤(L.length:Int))=true:=by simp; omega
  have RR:=zz (show yc L k parts=5 from by rw [R1.out,hg,if_neg (by decide),if_pos hfull]);clear h hne hg;go_enter Tryz.func70,Tryz.ntmps70
  go_wp2_with fail
  go_ret2
  exact ⟨by rw [RR.out]; rfl,(Fr.same w).alloc _⟩
def zUh (er:Int) (w:World) (e:Ending) (w':World):Prop:=e=.returned (xC er 0)∧Fr (fun _=>False) w w'
def CMid (w:World) (b:Nat) (w':World):Prop:=Fr (fun _=>False) w w'
theorem zZc {m:zG} (hM:zW w m) (q:Req) (rv kv tv:Value) (hk2:q.name.size≤100) (hL:m.TL.length≤20) (hne:yc m.TL q.name q.count≠0):Calls Tryz.prog 34 #[.pointer (some ⟨m.mb,0,none⟩),.agg (zT q rv kv tv)] w (zUh (yc m.TL q.name q.count) w):=by
 obtain ⟨w1,hw1,f1,x0,x1⟩:=zBk w q rv kv tv;have F1:=zz f1;have X1:=zz x1;have HM:=zz (hM.old f1);obtain ⟨er,her⟩:∃er,er=yc m.TL q.name q.count:=⟨_,rfl⟩;have TW:=zz (fun w' (hf:Fr (fun _=>False) w1 w')=>zSj (HM.out.old hf).top q.name q.count hk2 hL hne);rw [←her] at TW hne ⊢;have her2:(er == 0)=false:=by rw [beq_eq_false_iff_ne]; exact hne
 have HNE:=zz hne;unfold zT at x0 hw1 ⊢;unfold yE at hw1;have X0:=zz x0;clear hM f1 x0 x1 hne her;go_enter Tryz.func34,Tryz.ntmps34
 go_wp2_with fail
 rw [←hw1];clear hw1;apply Lcl.region_alike (F:=CMid w1)
 case hr=>
  have y0:∀y:Lcl.InS (fun w'=>Fr (fun _=>False) w1 w'),y.w.cell? ⟨m.mb,0,none⟩=some (.pointer (some ⟨m.tb,0,none⟩)):=fun y=>y.h.cel ((zB HM.out.b 0).trans rfl)
  have y1:∀y:Lcl.InS (fun w'=>Fr (fun _=>False) w1 w'),y.w.cell? ⟨w.heap.size,1,none⟩=some (.string q.name):=fun y=>y.h.cel ((zB X0.out 1).trans rfl)
  have y3:∀y:Lcl.InS (fun w'=>Fr (fun _=>False) w1 w'),y.w.cell? ⟨w.heap.size,3,none⟩=some (.int .i64 q.count):=fun y=>y.h.cel ((zB X0.out 3).trans rfl)
  have FD:=zz (Fr.same w1).drew;refine Lcl.wp_region_calm (by kernel_rfl) [(true,[0,1,2,4,6]),(false,[3,5,7])] #[0,1,3,7,0,16,0,64,255,511,1023,1023,2047,8191] [0,1,2,3,4,5,6,7] 6 #[true,true,true,true,true,true,true,true,false,false,false,false,false,false] (by kernel_rfl) (by kernel_rfl) (by kernel_rfl) (fun w'=>Fr (fun _=>False) w1 w') (Fr.same w1).drew (fun d c a v w h=>by cases h.1) ?_;simp only [Lcl.opsOf,List.map_cons,List.map_nil,List.getElem?_toArray,List.getElem?_cons_succ,List.getElem?_cons_zero,Option.getD_some];refine Lcl.wpCalm_t ?_
  repeat (go_big_quiet_step (rfl))
  refine wpQuiet_nil ?_;refine Lcl.wpCalm_f ?_
  repeat (go_big_quiet_step (rfl))
  refine wpQuiet_nil ?_;refine Lcl.wpCalm_nil ?_;clear y0 y1 y3;refine Lcl.wpG_one 8 rfl (by kernel_rfl) ?_;go_wp2_with fail
  refine (TW.out _ FD.out).mono ?_;rintro e w5 ⟨rfl,f5⟩;have FIN:=zz (show ∀b,CMid w1 b w5 from fun b=>FD.out.tr f5);clear f5;obtain ⟨b0,hb0⟩:∃b0:Nat,b0=0:=⟨_,rfl⟩;go_wp2_with fail
  refine ⟨fun h=>absurd h (by decide),?_⟩;refine Lcl.wpG_one 9 rfl (by kernel_rfl) ?_;go_wp2_with fail
  refine ⟨fun h=>absurd h (by decide),?_⟩;refine Lcl.wpG_two 10 11 rfl rfl (by kernel_rfl) ?_ ?_
  ·go_wp2_with fail
   refine ⟨fun h=>absurd h (by decide),?_⟩;refine Lcl.wpG_two 11 12 rfl rfl (by kernel_rfl) ?_ ?_
   ·go_wp2_with fail
    refine ⟨fun h=>absurd h (by decide),?_⟩;refine Lcl.wpG_run [12,13] _ _ _ (by kernel_rfl) ?_;simp only [List.map_cons,List.map_nil,List.getElem?_toArray,List.getElem?_cons_succ,List.getElem?_cons_zero,Option.getD_some];go_wp2_with fail
    exact ⟨b0,rfl,FIN.out b0⟩
   ·go_wp2_with fail
    refine ⟨fun h=>absurd h (by decide),?_⟩;refine Lcl.wpG_run [11,13] _ _ _ (by kernel_rfl) ?_;simp only [List.map_cons,List.map_nil,List.getElem?_toArray,List.getElem?_cons_succ,List.getElem?_cons_zero,Option.getD_some];go_wp2_with fail
    first | exact ⟨b0,FIN.out b0⟩ | exact ⟨b0,rfl,FIN.out b0⟩
  ·go_wp2_with fail
   refine ⟨fun h=>absurd h (by decide),?_⟩;refine Lcl.wpG_run [10,12,13] _ _ _ (by kernel_rfl) ?_;simp only [List.map_cons,List.map_nil,List.getElem?_toArray,List.getElem?_cons_succ,List.getElem?_cons_zero,Option.getD_some];go_wp2_with fail
   first | exact ⟨b0,FIN.out b0⟩ | exact ⟨b0,rfl,FIN.out b0⟩
 rintro b w5 hmid;unfold CMid at hmid;have F5:=zz (F1.out.tr hmid);have X3:=zz ((hmid.block _ (zA X1.out) fun h=>h).trans X1.out);clear hmid TW;go_wp2_with fail
 refine (yh 0 er HNE.out _).mono ?_;rintro e w8 ⟨rfl,hf8⟩;have X8:=(hf8.block _ (zA X3.out) fun h=>h).trans X3.out;have R9:=setRow_heap w8 (w.heap.size+1) _ (zS er 0 0 0 0 0 0 (.slice none 0 0) (.slice none 0 0) (.slice none 0 0)) 31 (0,0) X8;have FN:=zz (zZ ((Fr.same w8).mono (S':=fun i=>i=w.heap.size+1) fun _ h=>h.elim) (g:=w.heap.size+1) (.inl rfl) (zS er 0 0 0 0 0 0 (.slice none 0 0) (.slice none 0 0) (.slice none 0 0)));have F8:=zz hf8;clear hf8;go_wp2_with (refine zJ rfl _ _ rfl (w.heap.size+1) er 0 rfl rfl _ X8 rfl ?_)
 try simp only [Exit.inBlock,Exit.then]
 refine bodyPost_ret (results_cell_row rfl _ _ (w.heap.size+1) 31 _ (0,0) _ rfl R9 Tryz.underlying31 rfl (by kernel_rfl)) rfl ?_;exact ⟨rfl,(F5.out.tr F8.out).trans FN.out fun i e=>.inr (by omega)⟩
end
section
variable {w w':World} {S:Nat→Prop}
def NonePost (w:World) (e:Ending) (w':World):Prop:=e=.returned (xC 6 0)∧Fr (fun _=>False) w w'
def DescPost (m:zG) (w:World) (e:Ending) (w':World):Prop:=∃v,e=.returned (.agg (zS 0 0 0 0 0 0 0 (.slice none 0 0) v (.slice none 0 0)))∧w'.ownsRow w.heap.size 160 2 v (ud m.TL).length ((ud m.TL).flatMap jA)∧Fr (fun _=>False) w w'
theorem vw {m:zG} (hM:zW w m) (q:Req) (rv kv tv:Value) (K:Nat→Prop) (ft lt:ByteArray) (fok lok:Bool) (hE:xM w q rv kv tv K ft lt fok lok) (hsz:(yQ ByteArray.empty q ft lt).size≤2000000000000000) (he:zy q ft lt fok lok=true) (hk:q.kind=4∨q.kind=5∨q.kind=6∨q.kind=7∨q.kind=12) (hd:zU m q.name q.index=none) (now:Int):
  Calls Tryz.prog 12 #[.pointer (some ⟨m.mb,0,none⟩),.agg (zT q rv kv tv),.int .i64 now] w (NonePost w):=by
 rcases hk with hk | hk | hk | hk | hk
 all_goals
  obtain ⟨w1,hw1,f1,xq,x1⟩:=zBk w q rv kv tv;have X1:=zz x1;have M2:=zz (hM.old f1);have E2:=hE.keep f1;have EN:=zz E2;have CW:=zz (jH q rv kv tv K ft lt fok lok E2 hsz);have F2:=zz f1;have WF:=zz hE.wf;have LR:=zz (zA x1);clear f1 x1 hM hE E2 hsz;unfold zT at CW xq hw1 ⊢;unfold yE at hw1;rw [hk] at CW xq hw1 ⊢;have XQ:=zz xq;have xqe:=xq;rw [hw1] at xqe;clear xq;go_enter Tryz.func12,Tryz.ntmps12
  go_wp2_with (refine wpList_load_row rfl 41 _ rfl w.heap.size rfl 41 _ (0,0) _ xqe Tryz.underlying41 rfl (by kernel_rfl) ?_)
  rw [←hw1];clear hw1 xqe;refine CW.out.mono ?_;rintro e w3 ⟨rfl,hf3⟩;have M3:=zz (M2.out.old hf3);have X1:=zz ((hf3.block _ (zA X1.out) fun h=>h).trans X1.out);have XQ:=zz ((hf3.block _ (zA XQ.out) fun h=>h).trans XQ.out);have F3:=zz (F2.out.tr hf3);clear hf3 CW M2 EN F2;rw [he];unfold zDx;simp only [if_true];have FW:=zz (jR M3.out q.name q.index (by have:=WF.out.name; unfold maxLen; omega) WF.out.index);rw [hd] at FW;unfold zFn at FW;clear hd;have dq:=fun j=>zB XQ.out j
  go_wp2_with fail
  refine FW.out.mono ?_;rintro e w4 ⟨rfl,hf4⟩;have X1:=zz ((hf4.block _ (zA X1.out) fun h=>h).trans X1.out);have XQ:=zz ((hf4.block _ (zA XQ.out) fun h=>h).trans XQ.out);have F4:=zz (F3.out.tr hf4);have M4:=zz (M3.out.old hf4);clear hf4 FW M3 F3 dq;have dq:=fun j=>zB XQ.out j
  have X3:=X1;go_wp2_with fail
  refine (yh 0 6 (by decide) _).mono ?_;rintro e w8 ⟨rfl,hf8⟩;have X8:=(hf8.block _ (zA X3.out) fun h=>h).trans X3.out;have R9:=setRow_heap w8 (w.heap.size+1) _ (zS 6 0 0 0 0 0 0 (.slice none 0 0) (.slice none 0 0) (.slice none 0 0)) 31 (0,0) X8;have FN:=zz (zZ ((Fr.same w8).mono (S':=fun i=>i=w.heap.size+1) fun _ h=>h.elim) (g:=w.heap.size+1) (.inl rfl) (zS 6 0 0 0 0 0 0 (.slice none 0 0) (.slice none 0 0) (.slice none 0 0)));have F8:=zz hf8;clear hf8;go_wp2_with (refine zJ rfl _ _ rfl (w.heap.size+1) 6 0 rfl rfl _ X8 rfl ?_)
  try simp only [Exit.inBlock,Exit.then]
  refine bodyPost_ret (results_cell_row rfl _ _ (w.heap.size+1) 31 _ (0,0) _ rfl R9 Tryz.underlying31 rfl (by kernel_rfl)) rfl ?_;exact ⟨rfl,(F4.out.tr F8.out).trans FN.out fun i e=>.inr (by omega)⟩
theorem do_desc {m:zG} (hM:zW w m) (q:Req) (rv kv tv:Value) (K:Nat→Prop) (ft lt:ByteArray) (fok lok:Bool) (hE:xM w q rv kv tv K ft lt fok lok) (hsz:(yQ ByteArray.empty q ft lt).size≤2000000000000000) (he:zy q ft lt fok lok=true) (hk:q.kind=3) (htl:m.TL.length≤20) (now:Int):
  Calls Tryz.prog 12 #[.pointer (some ⟨m.mb,0,none⟩),.agg (zT q rv kv tv),.int .i64 now] w (DescPost m w):=by
 obtain ⟨w1,hw1,f1,xq,x1⟩:=zBk w q rv kv tv;have X1:=zz x1;have M2:=zz (hM.old f1);have E2:=hE.keep f1;have EN:=zz E2;have CW:=zz (jH q rv kv tv K ft lt fok lok E2 hsz);have F2:=zz f1;have WF:=zz hE.wf;have LR:=zz (zA x1);clear f1 x1 hM hE E2 hsz;unfold zT at CW xq hw1 ⊢;unfold yE at hw1;rw [hk] at CW xq hw1 ⊢;have XQ:=zz xq;have xqe:=xq;rw [hw1] at xqe;clear xq;go_enter Tryz.func12,Tryz.ntmps12
 go_wp2_with (refine wpList_load_row rfl 41 _ rfl w.heap.size rfl 41 _ (0,0) _ xqe Tryz.underlying41 rfl (by kernel_rfl) ?_)
 rw [←hw1];clear hw1 xqe;refine CW.out.mono ?_;rintro e w3 ⟨rfl,hf3⟩;have M3:=zz (M2.out.old hf3);have X1:=zz ((hf3.block _ (zA X1.out) fun h=>h).trans X1.out);have XQ:=zz ((hf3.block _ (zA XQ.out) fun h=>h).trans XQ.out);have F3:=zz (F2.out.tr hf3);clear hf3 CW M2 EN F2;rw [he];unfold zDx;simp only [if_true];have FW:=zz (jR M3.out q.name q.index (by have:=WF.out.name; unfold maxLen; omega) WF.out.index);obtain ⟨fd,hfd⟩:∃fd,fd=zU m q.name q.index:=⟨_,rfl⟩;rw [←hfd] at FW;clear hfd;have hpv:∃pa,zFn fd=.pointer pa:=by cases fd <;> exact ⟨_,rfl⟩
 obtain ⟨pa,hpv⟩:=hpv;rw [hpv] at FW;clear hpv;have dq:=fun j=>zB XQ.out j
 go_wp2_with fail
 refine FW.out.mono ?_;rintro e w4 ⟨rfl,hf4⟩;have X1:=zz ((hf4.block _ (zA X1.out) fun h=>h).trans X1.out);have XQ:=zz ((hf4.block _ (zA XQ.out) fun h=>h).trans XQ.out);have F4:=zz (F3.out.tr hf4);have M4:=zz (M3.out.old hf4);clear hf4 FW M3 F3 dq;have dq:=fun j=>zB XQ.out j
 have TW:=zz (zHy M4.out.top (by omega));have d0:=(zB M4.out.b 0).trans (show _=some (Value.pointer (some ⟨m.tb,0,none⟩)) from rfl);go_wp2_with fail
 refine TW.out.mono ?_;rintro e w5 ⟨v,rfl,ho,f5⟩;obtain ⟨ov,cv,hv,-,-⟩:=ze ho;subst hv;have X5:=(f5.block _ (zA X1.out) fun h=>h).trans X1.out;have R9:=setRow_heap w5 (w.heap.size+1) _ (zS 0 0 0 0 0 0 0 (.slice none 0 0) (.slice ov (ud m.TL).length cv) (.slice none 0 0)) 31 (0,0) X5;have FN:=zz (zZ ((Fr.same w5).mono (S':=fun i=>i=w.heap.size+1) fun _ h=>h.elim) (g:=w.heap.size+1) (.inl rfl) (zS 0 0 0 0 0 0 0 (.slice none 0 0) (.slice ov (ud m.TL).length cv) (.slice none 0 0)));have L4:=zz (zA X1.out);have OW:=zz ho;have F5:=zz f5;clear ho f5 TW d0 dq;go_wp2_with (refine yJ rfl _ _ rfl (w.heap.size+1) 0 0 0 0 0 0 0 (.slice none 0 0) (.slice ov (ud m.TL).length cv) (.slice none 0 0) rfl rfl rfl rfl rfl _ X5 rfl ?_)
 try simp only [Exit.inBlock,Exit.then]
 refine bodyPost_ret (results_cell_row rfl _ _ (w.heap.size+1) 31 _ (0,0) _ rfl R9 Tryz.underlying31 rfl (by kernel_rfl)) rfl ?_;exact ⟨_,rfl,vp (zl OW.out fun j hj=>FN.out.block j (zK OW.out hj).2 (by have:=(zK OW.out hj).1; have:=L4.out; omega)) (F4.out.size),(F4.out.tr F5.out).trans FN.out fun i e=>.inr (by omega)⟩
end
section
variable {w w':World} {S:Nat→Prop}
def CNewPost (a b:Int) (w:World) (e:Ending) (w':World):Prop:=∃c:zO,e=.returned (.tuple #[.pointer (some ⟨c.cb,0,none⟩),.int .i64 0])∧xd w' c 0∧c.G=[]∧c.O=[]∧c.se=a∧c.re=b∧(∀i,c.T i→w.heap.size≤i)∧Fr (fun _=>False) w w'
theorem zSk (a b:Int) (ha:1≤a∧a≤100000) (hb:1≤b∧b≤100000) (h0:0 < w.heap.size):Calls Tryz.prog 29 #[.int .i64 a,.int .i64 b] w (CNewPost a b w):=by
 have HG:=zz (show (1≤a∧a≤100000)∧1≤b∧b≤100000 from ⟨ha,hb⟩);have H0:=zz h0;clear ha hb h0;go_enter Tryz.func29,Tryz.ntmps29
 go_wp2_with fail
 refine (gnew_ok a b HG.out).mono ?_;rintro e w1 ⟨⟨p,rfl⟩,f1⟩;have F1:=zz f1;clear f1;go_wp2_with fail
 refine (new_yes 1000 (by decide) (by decide) w1).mono ?_;rintro e w2 ⟨tb,mb,rfl,ht,h1,h2,f2⟩;have f3:=(Fr.same w2).alloc (.map #[] 0);have m3:=xT.made jF w2;have f4:=(Fr.same (w2.alloc (.map #[] 0))).alloc (.cells #[.int .i64 a,.int .i64 b,.map (some w2.heap.size),.pointer (some ⟨tb,0,none⟩)] 139);have x4:=zC (w2.alloc (.map #[] 0)) (.cells #[.int .i64 a,.int .i64 b,.map (some w2.heap.size),.pointer (some ⟨tb,0,none⟩)] 139);have s3:(w2.alloc (.map #[] 0)).heap.size=w2.heap.size+1:=by simp
 rw [s3] at x4;have T4:=zz ((ht.old f3).old f4);have M4:=zz (m3.fr f4 fun h=>h);have X4:=zz x4;have LT:=zz ht.lt;have HH:=zz (show w.heap.size≤tb∧w.heap.size≤mb∧w.heap.size≤w2.heap.size from ⟨Nat.le_trans F1.out.size h1,Nat.le_trans F1.out.size h2,Nat.le_trans F1.out.size f2.size⟩);have F4:=zz (((F1.out.tr f2).tr f3).tr f4);clear ht f2 f3 m3 f4 x4 s3 h1 h2;have hmm:=@run_makeMap Tryz.prog;go_wp2_with fail
 go_ret2
 have h0:=H0.out;obtain ⟨a1,a2⟩:=LT.out;obtain ⟨b1,b2,b3⟩:=HH.out;refine ⟨⟨w2.heap.size+1,w2.heap.size,tb,mb,a,b,[],[]⟩,rfl,⟨X4.out,M4.out,T4.out,⟨?_,?_,?_,?_,?_⟩,⟨?_,?_,?_,?_⟩,fun x hx=>(by cases hx),fun x hx=>(by cases hx),fun x hx=>(by cases hx),List.Pairwise.nil,HG.out,Nat.zero_le _⟩,rfl,rfl,rfl,rfl,fun i hi=>?_,F4.out⟩
 all_goals (try dsimp only)
 all_goals (try omega)
 rcases hi with hi | ⟨x,hx,-⟩
 ·rcases hi with hi | hi | hi | hi <;> (dsimp only at hi; omega)
 ·cases hx
def zPn (a b:Int) (w:World) (e:Ending) (w':World):Prop:=∃(mb tb tmb pm:Nat) (c:zO),e=.returned (.tuple #[.pointer (some ⟨mb,0,none⟩),.int .i64 0])∧zW w' ⟨mb,tb,tmb,pm,0,[],.pointer (some ⟨c.cb,0,none⟩),0,[]⟩∧(w.heap.size≤mb∧w.heap.size≤tb∧w.heap.size≤tmb∧w.heap.size≤pm)∧xd w' c 0∧c.G=[]∧c.O=[]∧c.se=a∧c.re=b∧(∀i,c.T i→w.heap.size≤i∧i≠mb∧i≠tb∧i≠tmb∧i≠pm)∧Fr (fun _=>False) w w'
theorem zCa (a b:Int) (ha:1≤a∧a≤100000) (hb:1≤b∧b≤100000) (h0:0 < w.heap.size):Calls Tryz.prog 11 #[.int .i64 a,.int .i64 b] w (zPn a b w):=by
 have CW:=zz (zSk a b ha hb h0);have H0:=zz h0;clear ha hb h0;go_enter Tryz.func11,Tryz.ntmps11
 go_wp2_with fail
 refine CW.out.mono ?_;rintro e w1 ⟨c,rfl,hc,hG,hO,hse,hre,hlow,f1⟩;have F1:=zz f1;have CI:=zz (show c.G=[]∧c.O=[]∧c.se=a∧c.re=b from ⟨hG,hO,hse,hre⟩);have LW:=zz (show ∀i,c.T i→w.heap.size≤i∧i < w1.heap.size from fun i hi=>⟨hlow i hi,hc.Tlow hi⟩);have C1:=zz hc;clear f1 hc hG hO hse hre hlow CW;go_wp2_with fail
 refine (zVd w1).mono ?_;rintro e w2 ⟨tb,tmb,rfl,ht,h1,h2,f2⟩;have f3:=(Fr.same w2).alloc (.map #[] 0);have m3:=xT.made kf w2;have f4:=(Fr.same (w2.alloc (.map #[] 0))).alloc (.cells #[.pointer (some ⟨tb,0,none⟩),.pointer (some ⟨c.cb,0,none⟩),.int .i64 0,.map (some w2.heap.size)] 83);have x4:=zC (w2.alloc (.map #[] 0)) (.cells #[.pointer (some ⟨tb,0,none⟩),.pointer (some ⟨c.cb,0,none⟩),.int .i64 0,.map (some w2.heap.size)] 83);have s3:(w2.alloc (.map #[] 0)).heap.size=w2.heap.size+1:=by simp
 rw [s3] at x4;have T4:=zz ((ht.old f3).old f4);have M4:=zz (m3.fr f4 fun h=>h);have X4:=zz x4;have C4:=zz (C1.out.old ((f2.tr f3).tr f4));have lt1:=zA ht.b;have lt2:=ht.m.lt;have S1:=F1.out.size;have S2:=f2.size;have F4:=zz (((F1.out.tr f2).tr f3).tr f4);have LT:=zz (show tb < w2.heap.size∧tmb < w2.heap.size∧w.heap.size≤w1.heap.size∧w1.heap.size≤w2.heap.size from ⟨lt1,lt2,S1,S2⟩);have HH:=zz (show w1.heap.size≤tb∧w1.heap.size≤tmb from ⟨h1,h2⟩);clear ht f2 f3 m3 f4 x4 s3 lt1 lt2 S1 S2 h1 h2;have hmm:=@run_makeMap Tryz.prog;go_wp2_with fail
 go_ret2
 obtain ⟨a1,a2,a3,a4⟩:=LT.out;obtain ⟨b1,b2⟩:=HH.out;have b3:=H0.out;have hne:=T4.out.ne;refine ⟨w2.heap.size+1,tb,tmb,w2.heap.size,c,rfl,⟨X4.out,T4.out,M4.out,⟨?_,?_,?_,?_,?_⟩,⟨?_,?_,?_,?_⟩,?_,?_,List.Pairwise.nil,?_,?_,?_⟩,⟨?_,?_,?_,?_⟩,C4.out,CI.out.1,CI.out.2.1,CI.out.2.2.1,CI.out.2.2.2,fun i hi=>?_,F4.out⟩
 all_goals (try dsimp only)
 all_goals first | omega | (intro x hx; cases hx) | (have:=LW.out i hi; omega)
end
section
variable {w w':World} {S:Nat→Prop}
structure ReqBk (q:Req):Prop where
 kind:1≤q.kind∧q.kind≤14
 index:-1≤q.index∧q.index≤2199023255552
 count:-1≤q.count∧q.count≤2199023255552
 from':-1≤q.from'∧q.from'≤2199023255552
 member:-1≤q.member∧q.member≤2199023255552
 gen:-1≤q.gen∧q.gen≤2199023255552
 name:q.name.size≤100
 group:q.group.size≤100
 bat:zCn q.bat=true
theorem vD {q:Req} {ft lt:ByteArray} {fok lok:Bool} (h:zy q ft lt fok lok=true):ReqBk q∧fok=true∧lok=true:=by
 unfold zy reqB plB at h;simp only [List.foldl_cons,List.foldl_nil,okN,okT,Bool.false_or,Bool.and_eq_true,Bool.not_eq_true',Bool.or_eq_false_iff,Bool.not_eq_false',decide_eq_true_eq] at h;obtain ⟨⟨⟨⟨⟨⟨⟨⟨⟨⟨⟨h1,h2⟩,h3⟩,h4⟩,h5⟩,h6⟩,h7⟩,h8⟩,h9⟩,h10⟩,h11⟩,-⟩:=h;exact ⟨⟨h1,h3,h4,h5,h9,h10,by omega,by omega,h6⟩,h7,h11⟩
theorem top_back {tl:List ByteArray} (h:zOa tl=true):tl.length≤20:=by
 unfold zOa okN at h;simp only [Bool.and_eq_true,decide_eq_true_eq] at h;omega
structure PI (d:zR) (k:Nat):Prop where
 ok:∀b∈d.bats,xO b
 len:d.bats.length≤k
 n:d.n≤k
 st:0≤d.st∧d.st≤d.en
 en:d.en≤50 * k
theorem PI.more {d:zR} {k:Nat} (h:PI d k):PI d (k+1):=⟨h.ok,by have:=h.len; omega,by have:=h.n; omega,h.st,by have:=h.en; omega⟩
structure MI (w:World) (m:zG) (c:zO) (k:Nat):Prop where
 a:zW w m
 cv:m.cv=.pointer (some ⟨c.cb,0,none⟩)
 crd:xd w c (2 * k)
 off:∀i,c.T i→¬m.A i
 part:∀x∈m.L,PI x.2 k∧0≤x.1.ix∧x.1.ix < 16
 ll:m.L.length≤16 * k
 tn:m.tn≤k
 nx:m.next≤k
 tl:m.TL.length≤20
 tz:∀r∈m.TL,r.1.size≤100
 uid:∀r∈m.TL,∀s∈m.TL,jm r.2=jm s.2→r.1=s.1
def uP (q:Req) (m m':zG):Prop:=∀(nm:ByteArray) (ix:Int) (d:zR),zU m nm ix=some d→(q.kind=2∧q.name=nm)∨∃d',zU m' nm ix=some d'∧d.st≤d'.st∧d.en≤d'.en∧((q.name≠nm∨q.index≠ix)→d'.st=d.st∧d'.en=d.en∧d'.bats=d.bats)
theorem uP.same (q:Req) (m:zG):uP q m m:=fun nm ix d h=>.inr ⟨d,h,Int.le_refl _,Int.le_refl _,fun _=>⟨rfl,rfl,rfl⟩⟩
theorem zMg (k:Nat):2 * (k+1)=2 * k+2:=by omega
theorem MI.step {m:zG} {c c':zO} {k:Nat} (h:MI w m c k) (st:zX c (2 * k) w w' c'):MI w' m c' (k+1):=
 ⟨h.a.fr st.2.2.2 (fun i hi hT=>h.off i hT (.inl hi)) fun x hx i hi hT=>h.off i hT (.inr ⟨x,hx,hi⟩),by rw [st.2.1]; exact h.cv,by rw [zMg]; exact st.1,
  fun i hi hA=>(st.2.2.1 i hi).elim (fun h9=>h.off i h9 hA) fun h9=>by have:=zG.A_lt h.a hA; omega,fun x hx=>⟨(h.part x hx).1.more,(h.part x hx).2⟩,by have:=h.ll; omega,by have:=h.tn; omega,by have:=h.nx; omega,h.tl,h.tz,h.uid⟩
theorem MI.idle {m:zG} {c:zO} {k:Nat} (h:MI w m c k) (hf:Fr (fun _=>False) w w'):MI w' m c (k+1):=h.step (zX.same h.crd hf)
theorem MI.turn {m:zG} {c:zO} {k:Nat} (h:MI w m c k) {p:zY} {d d':zR} (hm:(p,d)∈m.L) (ha:zW w' { m with L:=vG m.L p d' }) (hT:∀i,d'.T i→d.T i∨w.heap.size≤i) (hf:Fr d.T w w') (hp:PI d' (k+1)):MI w' { m with L:=vG m.L p d' } c (k+1):=by
 have hs:∀x∈vG m.L p d',(x=(p,d'))∨x∈m.L:=fun x hx=>by
  obtain ⟨y,hy,rfl⟩:=List.mem_map.1 hx;by_cases e:y.1=p
  ·rw [if_pos e]; exact .inl rfl
  ·rw [if_neg e]; exact .inr hy
 refine ⟨ha,h.cv,(h.crd.fr hf fun i hi hd=>h.off i hi (.inr ⟨_,hm,hd⟩)).more (by omega),fun i hi hA=>?_,fun x hx=>?_,by show (vG m.L p d').length≤_; unfold vG; rw [List.length_map]; have:=h.ll; omega,by have:=h.tn; show m.tn≤_; omega,by have:=h.nx; show m.next≤_; omega,h.tl,h.tz,h.uid⟩
 ·rcases hA with hA | ⟨x,hx,hA⟩
  ·exact h.off i hi (.inl hA)
  ·rcases hs x hx with rfl | hx
   ·rcases hT i hA with h1 | h1
    ·exact h.off i hi (.inr ⟨_,hm,h1⟩)
    ·have:=h.crd.Tlow hi; omega
   ·exact h.off i hi (.inr ⟨x,hx,hA⟩)
 ·rcases hs x hx with rfl | hx
  ·exact ⟨hp,(h.part _ hm).2⟩
  ·exact ⟨(h.part x hx).1.more,(h.part x hx).2⟩
theorem MI.next {m:zG} {c:zO} {k:Nat} (h:MI w m c k) (ha:zW w' { m with next:=m.next+1 }) (hf:Fr (fun i=>i=m.mb) w w'):MI w' { m with next:=m.next+1 } c (k+1):=
 ⟨ha,h.cv,(h.crd.fr hf fun i hi e=>h.off i hi (.inl (.inl e))).more (by omega),fun i hi hA=>h.off i hi hA,fun x hx=>⟨(h.part x hx).1.more,(h.part x hx).2⟩,by have:=h.ll; show m.L.length≤_; omega,by have:=h.tn; show m.tn≤_; omega,by have:=h.nx; show m.next+1≤_; omega,h.tl,h.tz,h.uid⟩
theorem yU {m:zG} {nm:ByteArray} {ix:Int} {d:zR} (h:zU m nm ix=some d):∃p,(p,d)∈m.L∧p.ix=ix∧zt m.L p=some d∧∃v,zk m.TL nm=some v∧p.id=jm v:=by
 unfold zU at h;cases hg:zk m.TL nm with
 | none=>rw [hg] at h; cases h
 | some v=>rw [hg] at h; exact ⟨⟨jm v,ix⟩,jV h,rfl,h,v,rfl,rfl⟩
end
section
variable {w w':World} {S:Nat→Prop}
def zAl (w:World) (m:zG) (name:ByteArray) (count:Int) (e:Ending) (w':World):Prop:=
 e=.returned (xC 0 m.tn)∧∃m':zG,zW w' m'∧m'.mb=m.mb∧m'.TL=jb m.TL name (yq m.tn count)∧m'.tn=m.tn+1∧m'.next=m.next∧m'.cv=m.cv∧
  (∀i:Int,0≤i→i < count→∃d,zt m'.L ⟨m.tn,i⟩=some d∧zQr d)∧(∀p:zY,¬(p.id=m.tn∧0≤p.ix∧p.ix < count)→zt m'.L p=zt m.L p)∧(∀i,m'.B i→m.B i)∧(∀x∈m'.L,∀i,x.2.T i→(∃y∈m.L,y.2.T i)∨w.heap.size≤i)∧m'.L.length≤m.L.length+count.toNat∧Fr m.B w w'
theorem kU {m:zG} (h:zW w m) (q:Req) (rv kv tv:Value) (hk1:1≤q.name.size) (hk2:q.name.size≤100) (hc1:1≤q.count) (hc2:q.count≤16) (hg:zk m.TL q.name=none) (hL:m.TL.length < 20) (hn:m.tn < 1073741824) (hPL:m.L.length < 1000):
  Calls Tryz.prog 34 #[.pointer (some ⟨m.mb,0,none⟩),.agg (zT q rv kv tv)] w (zAl w m q.name q.count):=by
 have f2:=((Fr.same w).alloc (.cells #[.int .i64 q.kind,.string q.name,.int .i64 q.index,.int .i64 q.count,.int .i64 q.from',.bool q.flag,.int .i64 q.bat.base,.int .i64 q.bat.span,.int .i64 q.bat.prod,.int .i64 q.bat.epoch,.int .i64 q.bat.seq,rv,.int .i64 q.fop,.string q.fnm,.string q.fvl,kv,.string q.group,.int .i64 q.member,.int .i64 q.gen,tv] 41)).alloc (.cells #[.int .i64 0,.int .i64 0,.int .i64 0,.int .i64 0,.int .i64 0,.int .i64 0,.int .i64 0,.slice none 0 0,.slice none 0 0,.slice none 0 0] 31);have s1:(w.alloc (.cells #[.int .i64 q.kind,.string q.name,.int .i64 q.index,.int .i64 q.count,.int .i64 q.from',.bool q.flag,.int .i64 q.bat.base,.int .i64 q.bat.span,.int .i64 q.bat.prod,.int .i64 q.bat.epoch,.int .i64 q.bat.seq,rv,.int .i64 q.fop,.string q.fnm,.string q.fvl,kv,.string q.group,.int .i64 q.member,.int .i64 q.gen,tv] 41)).heap.size=w.heap.size+1:=by simp
 have x1:=zC (w.alloc (.cells #[.int .i64 q.kind,.string q.name,.int .i64 q.index,.int .i64 q.count,.int .i64 q.from',.bool q.flag,.int .i64 q.bat.base,.int .i64 q.bat.span,.int .i64 q.bat.prod,.int .i64 q.bat.epoch,.int .i64 q.bat.seq,rv,.int .i64 q.fop,.string q.fnm,.string q.fvl,kv,.string q.group,.int .i64 q.member,.int .i64 q.gen,tv] 41)) (.cells #[.int .i64 0,.int .i64 0,.int .i64 0,.int .i64 0,.int .i64 0,.int .i64 0,.int .i64 0,.slice none 0 0,.slice none 0 0,.slice none 0 0] 31);rw [s1] at x1;have X1:=zz x1;have X0:=zz ((zF (.cells #[.int .i64 0,.int .i64 0,.int .i64 0,.int .i64 0,.int .i64 0,.int .i64 0,.int .i64 0,.slice none 0 0,.slice none 0 0,.slice none 0 0] 31) (zA (zC w (.cells #[.int .i64 q.kind,.string q.name,.int .i64 q.index,.int .i64 q.count,.int .i64 q.from',.bool q.flag,.int .i64 q.bat.base,.int .i64 q.bat.span,.int .i64 q.bat.prod,.int .i64 q.bat.epoch,.int .i64 q.bat.seq,rv,.int .i64 q.fop,.string q.fnm,.string q.fvl,kv,.string q.group,.int .i64 q.member,.int .i64 q.gen,tv] 41)))).trans (zC w (.cells #[.int .i64 q.kind,.string q.name,.int .i64 q.index,.int .i64 q.count,.int .i64 q.from',.bool q.flag,.int .i64 q.bat.base,.int .i64 q.bat.span,.int .i64 q.bat.prod,.int .i64 q.bat.epoch,.int .i64 q.bat.seq,rv,.int .i64 q.fop,.string q.fnm,.string q.fvl,kv,.string q.group,.int .i64 q.member,.int .i64 q.gen,tv] 41)));have M2:=zz (h.old f2);have F2:=zz f2;have M0:=zz h;have LOW:=zz h.low;have HG:=zz hg;clear f2 s1 x1 h hg;unfold zT;go_enter Tryz.func34,Tryz.ntmps34
 go_wp2_with fail
 generalize ((w.alloc (.cells #[.int .i64 q.kind,.string q.name,.int .i64 q.index,.int .i64 q.count,.int .i64 q.from',.bool q.flag,.int .i64 q.bat.base,.int .i64 q.bat.span,.int .i64 q.bat.prod,.int .i64 q.bat.epoch,.int .i64 q.bat.seq,rv,.int .i64 q.fop,.string q.fnm,.string q.fvl,kv,.string q.group,.int .i64 q.member,.int .i64 q.gen,tv] 41)).alloc (.cells #[.int .i64 0,.int .i64 0,.int .i64 0,.int .i64 0,.int .i64 0,.int .i64 0,.int .i64 0,.slice none 0 0,.slice none 0 0,.slice none 0 0] 31))=w2 at *;have LT:=zz (show ∀i,m.B i→i < w.heap.size from LOW.out.1);have lt1:=LT.out _ (.inr (.inl rfl));have lt2:=LT.out _ (.inr (.inr (.inl rfl)));obtain ⟨n1,n2,n3,n4,n5⟩:=M0.out.n1;have z0:∀y:Lcl.InS (fun w'=>Fr (fun i=>i=m.tb∨i=m.tmb) w2 w'),y.w.cell? ⟨m.mb,0,none⟩=some (.pointer (some ⟨m.tb,0,none⟩)):=fun y=>y.h.cell ((zB M2.out.b 0).trans rfl) (by show ¬(m.mb=m.tb∨m.mb=m.tmb); omega)
 have z1:∀y:Lcl.InS (fun w'=>Fr (fun i=>i=m.tb∨i=m.tmb) w2 w'),y.w.cell? ⟨w.heap.size,1,none⟩=some (.string q.name):=fun y=>y.h.cell ((zB X0.out 1).trans rfl) (by show ¬(w.heap.size=m.tb∨w.heap.size=m.tmb); omega)
 have z2:∀y:Lcl.InS (fun w'=>Fr (fun i=>i=m.tb∨i=m.tmb) w2 w'),y.w.cell? ⟨w.heap.size,3,none⟩=some (.int .i64 q.count):=fun y=>y.h.cell ((zB X0.out 3).trans rfl) (by show ¬(w.heap.size=m.tb∨w.heap.size=m.tmb); omega)
 refine Lcl.wp_region_calm (by kernel_rfl) [(true,[0,1,2,4,6]),(false,[3,5,7])] #[0,1,3,7,0,16,0,64,255,511,1023,1023,2047,8191] [0,1,2,3,4,5,6,7] 6 #[true,true,true,true,true,true,true,true,false,false,false,false,false,false] (by kernel_rfl) (by kernel_rfl) (by kernel_rfl) (fun w'=>Fr (fun i=>i=m.tb∨i=m.tmb) w2 w') (Fr.refl _ w2).drew (fun d c a v w h=>by cases d <;> exact h) ?_;simp only [Lcl.opsOf,List.map_cons,List.map_nil,List.getElem?_toArray,List.getElem?_cons_succ,List.getElem?_cons_zero,Option.getD_some];refine Lcl.wpCalm_t ?_
 repeat (go_big_quiet_step (rfl))
 refine wpQuiet_nil ?_;refine Lcl.wpCalm_f ?_
 repeat (go_big_quiet_step (rfl))
 refine wpQuiet_nil ?_;refine Lcl.wpCalm_nil ?_;clear z0 z1 z2;have D2:=zz (Fr.same w2).drew;have M3:=zz (M2.out.old D2.out);have F3:=zz (F2.out.tr D2.out);have X1:=zz ((D2.out.block _ (zA X1.out) fun h=>h).trans X1.out);have X0:=zz ((D2.out.block _ (zA X0.out) fun h=>h).trans X0.out);clear M2 F2;generalize w2.drew=w3 at *;have CW:=zz (zLa M3.out.top q.name q.count hk1 hk2 hc1 hc2 HG.out hL M0.out.tn.1 hn);refine Lcl.wpG_one 8 rfl (by kernel_rfl) ?_;go_wp2_with fail
 refine CW.out.mono ?_;rintro e w4 ⟨rfl,ht4,f4⟩;have M4:=zz (M3.out.topped ht4 f4 hn);have X1:=zz ((f4.block _ (zA X1.out) (by omega)).trans X1.out);have X0:=zz ((f4.block _ (zA X0.out) (by omega)).trans X0.out);have F4:=zz ((F3.out.mono (S':=m.B) fun _ h=>h.elim).trans f4 fun i e=>.inl (by rcases e with e | e <;> first | exact .inr (.inl e) | exact .inr (.inr (.inl e))));have D4:=zz ((D2.out.mono (S':=fun i=>i=m.tb∨i=m.tmb) fun _ h=>h.elim).trans f4 fun i e=>.inl e);have LX1:=zz (zA X1.out);clear ht4 f4 CW M3 F3 D2;go_wp2_with fail
 refine ⟨fun h=>absurd h (by decide),?_⟩;refine Lcl.wpG_calm (m:=#[0,1,3,7,0,16,0,64,255,511,1023,1023,2047,8191]) (needs:=[0,1,2,3,4,5,6,7]) (fuel:=0) (by kernel_rfl) ?hqA (D4.out) [(true,[9,10,11,12,13])] _ _ ?k1A ?k2A ?k3A ?k4A
 case hqA=>exact fun d c a v w h=>by cases d <;> exact h
 case k1A=>kernel_rfl
 case k2A=>rfl
 case k3A=>kernel_rfl
 simp only [Lcl.opsOf,List.map_cons,List.map_nil,List.getElem?_toArray,List.getElem?_cons_succ,List.getElem?_cons_zero,Option.getD_some];refine Lcl.wpCalm_t ?_
 repeat (go_big_quiet_step (rfl))
 refine wpQuiet_nil ?_;refine Lcl.wpCalm_nil ?_;refine Lcl.wpG_run [] _ _ _ (by kernel_rfl) ?_;simp only [List.map_cons,List.map_nil,List.getElem?_toArray,List.getElem?_cons_succ,List.getElem?_cons_zero,Option.getD_some];have d0:=fun j=>zB X0.out j
 have hcn:((q.count.toNat:Nat):Int)=q.count:=by omega
 have HCN:=zz hcn;clear D4 hcn;go_wp2_with fail
 clear d0;go_loopw [24] (fun i wr=>∃(k:Nat) (Lk:List (zY × zR)),i=.int .i64 k∧(k:Int)≤q.count∧zW wr { m with TL:=jb m.TL q.name (yq m.tn q.count),tn:=m.tn+1,L:=Lk } ∧
  (∀i:Int,0≤i→i < k→∃d,zt Lk ⟨m.tn,i⟩=some d∧zQr d)∧(∀p:zY,¬(p.id=m.tn∧0≤p.ix∧p.ix < (k:Int))→zt Lk p=zt m.L p)∧Lk.length≤m.L.length+k∧(∀x∈Lk,∀i,x.2.T i→(∃y∈m.L,y.2.T i)∨w4.heap.size≤i)∧Fr m.B w4 wr) (fun i _=>q.count.toNat - (intOf i).toNat)
 case atStart=>exact ⟨0,m.L,rfl,by omega,M4.out,fun i h1 h2=>by omega,fun p h=>rfl,Nat.le_refl _,fun x hx i hi=>.inl ⟨x,hx,hi⟩,Fr.refl _ _⟩
 case round=>
  obtain ⟨k,Lk,rfl,hk,hM,hl1,hl2,hlen,hsep,hf⟩:=hrel;have SEP:=zz hsep;have SZF:=zz hf.size;have M5:=zz hM;have L1:=zz hl1;have L2:=zz hl2;have F:=zz hf;have X1w:=zz ((hf.block _ (zA X1.out) (fun e=>by have:=LT.out _ e; omega)).trans X1.out);clear hM hl1 hl2 hf hsep;by_cases hlt:(k:Int) < q.count
  ·go_wp2_with fail
   have z0:∀y:Lcl.InS (fun w'=>Fr (fun _=>False) wr w'),y.w.cell? ⟨m.mb,3,none⟩=some (.map (some m.pm)):=fun y=>y.h.cel ((zB M5.out.b 3).trans rfl)
   refine Lcl.wp_region_calm (by kernel_rfl) [(true,[0,1,2,4,5,6]),(false,[3])] #[0,1,3,7,0,0,48,0,128,384,1023] [0,1,2,3,4,5,6,7,8,9] 4 #[true,true,true,true,true,true,true,false,false,false,false] (by kernel_rfl) (by kernel_rfl) (by kernel_rfl) (fun w'=>Fr (fun _=>False) wr w') (Fr.same wr).drew (fun d c a v w h=>by cases d <;> exact h) ?_;simp only [Lcl.opsOf,List.map_cons,List.map_nil,List.getElem?_toArray,List.getElem?_cons_succ,List.getElem?_cons_zero,Option.getD_some];refine Lcl.wpCalm_t ?_
   repeat (go_big_quiet_step (rfl))
   refine wpQuiet_nil ?_;refine Lcl.wpCalm_f ?_
   repeat (go_big_quiet_step (rfl))
   refine wpQuiet_nil ?_;refine Lcl.wpCalm_nil ?_;clear z0;have D5:=zz (Fr.same wr).drew;have M6:=zz (M5.out.old D5.out);have X1:=zz ((D5.out.block _ (zA X1w.out) fun h=>h).trans X1w.out);have F6:=zz (F.out.trans D5.out fun _ h=>h.elim);clear M5 X1w;generalize wr.drew=w5 at *;refine Lcl.wpG_one 7 rfl (by kernel_rfl) ?_;go_wp2_with fail
   refine (zVf w5).mono ?_;rintro e w6 ⟨pb,mp,rfl,hpa,hpb,hmp,f6⟩;have D6:=zz (D5.out.tr f6);have M7:=zz (M6.out.old f6);have PA:=zz hpa;have F7:=zz (F6.out.trans f6 fun _ h=>h.elim);have LO:=zz M6.out.low;have WS:=zz F6.out.size;have GE:=zz (show w5.heap.size≤pb∧w5.heap.size≤mp∧0 < w5.heap.size∧w5.heap.size≤w6.heap.size∧pb < w6.heap.size∧mp < w6.heap.size from ⟨hpb,hmp,by have:=LO.out.1 _ (.inl rfl); omega,f6.size,zA hpa.b,hpa.m.lt⟩);clear hpa hpb hmp f6 M6 F6;go_wp2_with fail
   refine ⟨fun _ _=>D6.out,?_⟩;refine Lcl.wpG_one 8 rfl (by kernel_rfl) ?_;go_wp2_with fail
   refine ⟨fun _ _=>D6.out,?_⟩;refine Lcl.wpG_one 9 rfl (by kernel_rfl) ?_;have fa:=(Fr.same w6).alloc (.cells #[.int .i64 0,.int .i64 0,.slice none 0 0,.pointer (some ⟨pb,0,none⟩)] 102);have xa:=zC w6 (.cells #[.int .i64 0,.int .i64 0,.slice none 0 0,.pointer (some ⟨pb,0,none⟩)] 102);have sz:=(show (w6.alloc (.cells #[.int .i64 0,.int .i64 0,.slice none 0 0,.pointer (some ⟨pb,0,none⟩)] 102)).heap.size=w6.heap.size+1 by simp);have D7:=zz (D6.out.tr fa);have M8:=zz (M7.out.old fa);have F8:=zz (F7.out.trans fa fun _ h=>h.elim);have PW:=zz (je.new (PA.out.old fa));have XA:=zz xa;have SZ:=zz sz;clear fa xa sz M7 F7 D6;go_wp2_with fail
   refine ⟨fun _ _=>D7.out,?_⟩;refine Lcl.wpG_run [10] _ _ _ (by kernel_rfl) ?_;simp only [List.map_cons,List.map_nil,List.getElem?_toArray,List.getElem?_cons_succ,List.getElem?_cons_zero,Option.getD_some];generalize (w6.alloc (.cells #[.int .i64 0,.int .i64 0,.slice none 0 0,.pointer (some ⟨pb,0,none⟩)] 102))=w7 at *;refine uJ zGf _ rfl 81 87 Tryz.underlying81 (.tmp 30) (.tmp 33) (.tmp 36) rfl m.pm (jU Lk) rfl M8.out.map (by unfold jU; rw [List.length_map]; omega) ⟨m.tn,k⟩ rfl ⟨by have:=M0.out.tn; simp [Lit.wf,IntKind.min,IntKind.max,IntKind.signed,IntKind.bits]; omega,by simp [Lit.wf,IntKind.min,IntKind.max,IntKind.signed,IntKind.bits]; omega⟩ (.pointer (some ⟨w6.heap.size,0,none⟩)) rfl ?_;intro w8 hm8 hg8;have hf8:Fr (fun i=>i=m.pm) w7 w8:=Fr.grown (Fr.refl _ _) hg8 fun x e=>.inl (Option.some.inj e).symm
   have hpm:m.pm < w5.heap.size:=LO.out.1 _ (.inr (.inr (.inr rfl)));have PD:jT w8 ⟨w6.heap.size,0,0,[],.slice none 0 0,pb,fun _=>none,0,fun _=>False,fun i=>i=pb∨i=mp⟩:=by
    obtain ⟨g1,g2,g3,g4,g5,g6⟩:=GE.out;have hs8:=hf8.size;have hs7:=SZ.out;refine ⟨(hf8.block _ (zA XA.out) (by omega)).trans XA.out,za.nil _ _ _,PW.out.fr hf8 ?_,?_,?_,?_,?_,?_,?_⟩
    ·rintro i (h | h) e <;> omega
    ·rintro i (h | h | h | h | h)
     ·have h:i=w6.heap.size:=h; dsimp only at *; omega
     ·cases h
     ·exact h.elim
     ·have h:i=pb:=h; omega
     ·have h:i=mp:=h; omega
    ·intro h; cases h
    ·exact fun h=>h
    ·rintro (h | h) <;> (dsimp only at h; omega)
    ·intro k hk; cases hk
    ·intro k hk; exact hk.elim
   have MA:=zz (M8.out.add PD w5.heap.size (by
    obtain ⟨g1,g2,g3,g4,g5,g6⟩:=GE.out;rintro i (h | h | h | h | h)
    ·have h:i=w6.heap.size:=h; omega
    ·cases h
    ·exact h.elim
    ·have h:i=pb:=h; omega
    ·have h:i=mp:=h; omega) LO.out hm8 hf8)
   have SEP2:=zz (show ∀x∈zNo Lk ⟨m.tn,k⟩ ⟨w6.heap.size,0,0,[],.slice none 0 0,pb,fun _=>none,0,fun _=>False,fun i=>i=pb∨i=mp⟩,∀i,x.2.T i→(∃y∈m.L,y.2.T i)∨w4.heap.size≤i by
    obtain ⟨g1,g2,g3,g4,g5,g6⟩:=GE.out;have hs5:=WS.out;intro x hx;rcases List.mem_cons.1 hx with rfl | hx
    ·rintro i (h | h | h | h | h)
     ·have h:i=w6.heap.size:=h; exact .inr (by omega)
     ·cases h
     ·exact h.elim
     ·have h:i=pb:=h; exact .inr (by omega)
     ·have h:i=mp:=h; exact .inr (by omega)
    ·exact SEP.out x (List.mem_filter.1 hx).1)
   have F9:=zz (F8.out.trans hf8 fun i e=>.inl (.inr (.inr (.inr e))));have NL:=zz (show (zNo Lk ⟨m.tn,k⟩ ⟨w6.heap.size,0,0,[],.slice none 0 0,pb,fun _=>none,0,fun _=>False,fun i=>i=pb∨i=mp⟩).length≤m.L.length+(k+1) by
    unfold zNo; rw [List.length_cons]; have:=List.length_filter_le (fun x:zY × zR=>decide (x.1≠⟨m.tn,k⟩)) Lk; omega)
   clear hm8 hg8 hf8 hpm PD;go_wp2_with fail
   go_roundw
   case rel=>
    refine ⟨k+1,_,by go_num,by omega,MA.out,?_,?_,NL.out,SEP2.out,F9.out⟩
    ·intro i h1 h2
     rw [zJj];by_cases e:(⟨m.tn,i⟩:zY)=⟨m.tn,k⟩
     ·rw [if_pos e]; exact ⟨_,rfl,⟨rfl,rfl,rfl,rfl,rfl⟩⟩
     ·rw [if_neg e]; exact L1.out i h1 (by
       have:i≠(k:Int):=fun h=>e (by rw [h])
       omega)
    ·intro p hp
     have hp2:p≠⟨m.tn,k⟩:=fun e=>hp (by rw [e]; exact ⟨rfl,Int.natCast_nonneg k,by push_cast; show (k:Int) < k+1; omega⟩)
     rw [zJj,if_neg hp2];exact L2.out p fun h=>hp ⟨h.1,h.2.1,by push_cast; have:=h.2.2; omega⟩
   case measure=>simp [intOf]; omega
  ·have hkc:(k:Int)=q.count:=by omega
   have HKC:=zz hkc;have hge:¬((k:Int) < q.count):=hlt;clear hkc;go_wp2_with fail
   refine (yB m.tn wr).mono ?_;rintro e w8 ⟨rfl,hf8⟩;have X8:=(hf8.block _ (zA X1w.out) fun h=>h).trans X1w.out;have R9:=setRow_heap w8 (w.heap.size+1) _ (zS 0 m.tn 0 0 0 0 0 (.slice none 0 0) (.slice none 0 0) (.slice none 0 0)) 31 (0,0) X8;have fE:=zZ (S:=fun i=>i=w.heap.size+1) (Fr.refl _ w8) (.inl rfl) (zS 0 m.tn 0 0 0 0 0 (.slice none 0 0) (.slice none 0 0) (.slice none 0 0));have MF:=zz ((M5.out.old hf8).fr fE (fun i hi e=>by have:=LT.out i hi; omega) fun x hx i hi e=>by
    have hlx:=LX1.out;rcases SEP.out x hx i hi with ⟨y,hy,hyi⟩ | h
    ·have:=LOW.out.2 y hy i hyi; omega
    ·omega)
   have FF:=zz (((F4.out.trans F.out fun i h=>.inl h).trans hf8 fun _ h=>h.elim).trans fE fun i e=>.inr (by omega));clear hf8 fE;go_wp2_with (refine zJ rfl _ _ rfl (w.heap.size+1) 0 m.tn rfl rfl _ X8 rfl ?_)
   try simp only [Exit.inBlock,Exit.then]
   refine bodyPost_ret (results_cell_row rfl _ _ (w.heap.size+1) 31 _ (0,0) _ rfl R9 Tryz.underlying31 rfl (by kernel_rfl)) rfl ?_;exact ⟨rfl,_,MF.out,rfl,rfl,rfl,rfl,rfl,fun i h1 h2=>L1.out i h1 (by have:=HKC.out; omega),fun p hp=>L2.out p fun h=>hp ⟨h.1,h.2.1,by have:=HKC.out; have:=h.2.2; omega⟩,fun i h=>h,fun x hx i hi=>(SEP.out x hx i hi).imp id fun h=>Nat.le_trans F4.out.size h,by have:=HKC.out; dsimp only; omega,FF.out⟩
end
end Go.Proofs.YtfdhofabgdkkkaaGreatDoor
