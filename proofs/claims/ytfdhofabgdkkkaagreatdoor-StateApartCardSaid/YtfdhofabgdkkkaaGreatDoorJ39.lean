/- A part of the proof that what the machine is told keeps its bounds. -/
import Derived.Test.YtfdhofabgdkkkaaGreatDoorJ38
set_option maxHeartbeats 128000000
set_option maxRecDepth 100000
namespace Go.Proofs.YtfdhofabgdkkkaaGreatDoor
open Lib renaming hid→zz
open Go.RowKit Go.Fm Go.BigFrame Go.Shelf Go.Maps
set_option linter.unusedVariables false
set_option linter.unusedSimpArgs false
section
variable {w w':World} {S K:Nat→Prop}
theorem zKp (w:World) (q:Req) (rv kv tv:Value):∃w1,w1=((w.alloc (.cells (zT q rv kv tv) 41)).alloc (.cells yE 31)).alloc (.cells #[.string q.name,.int .i64 q.index] 169)∧Fr (fun _=>False) w w1∧w1.heap[w.heap.size]?=some (.cells (zT q rv kv tv) 41 (0,0))∧w1.heap[w.heap.size+1]?=some (.cells yE 31 (0,0))∧w1.heap[w.heap.size+2]?=some (.cells #[.string q.name,.int .i64 q.index] 169 (0,0)):=by
 obtain ⟨w0,hw0,f0,x0,x1⟩:=zBk w q rv kv tv;have s2:w0.heap.size=w.heap.size+2:=by rw [hw0]; simp
 have x2:=zC w0 (.cells #[.string q.name,.int .i64 q.index] 169);rw [s2] at x2;exact ⟨_,by rw [hw0],f0.alloc _,(zF (.cells #[.string q.name,.int .i64 q.index] 169) (zA x0)).trans x0,(zF (.cells #[.string q.name,.int .i64 q.index] 169) (zA x1)).trans x1,x2⟩
theorem zX.out {c c':zO} {N:Nat} {w0 w2 w9:World} {rb:Nat} (h:zX c N w2 w' c') (f0:Fr (fun _=>False) w0 w2) (hc:xd w0 c N) (h1:w0.heap.size≤rb) (h2:rb < w2.heap.size) (hf:Fr (fun i=>i=rb) w' w9):zX c N w0 w9 c':=by
 have low:∀i,c.T i→i < w0.heap.size:=fun i hi=>by
  rcases hi with hi | ⟨x,hx,hi⟩
  ·exact (hc.low.1 i hi).2
  ·exact (hc.low.2 x hx i hi).2
 refine ⟨h.1.fr hf fun i hi e=>?_,h.2.1,fun i hi=>(h.2.2.1 i hi).imp id fun h=>Nat.le_trans f0.size h,((f0.mono (S':=c.T) fun _ h=>h.elim).trans h.2.2.2 fun i hi=>.inl hi).trans hf fun i e=>.inr (by omega)⟩;rcases h.2.2.1 i hi with h3 | h3
 ·have:=low i h3; omega
 ·omega
theorem kR (er:Int) (w:World):Calls Tryz.prog 32 #[.int .i64 0,.int .i64 er] w fun r w'=>r=.returned (xC er 0)∧Fr (fun _=>False) w w':=by
 by_cases h:er=0
 ·subst h
  exact yB 0 w
 ·exact yh 0 er h w
def zHz (c:zO) (N:Nat) (w:World) (R:Int→Int→zO→Prop) (e:Ending) (w':World):Prop:=∃(er a:Int) (c':zO),e=.returned (xC er a)∧zX c N w w' c'∧R er a c'
theorem zSb {m:zG} (hM:zW w m) {c:zO} {N:Nat} (hC:xd w c N) (hcv:m.cv=.pointer (some ⟨c.cb,0,none⟩)) (hN:N≤900000) (q:Req) (rv kv tv:Value) (hk:q.kind=10) (hg:q.group.size≤maxLen) (hm:-1≤q.member∧q.member≤2199023255552) (now:Int):
  Calls Tryz.prog 41 #[.pointer (some ⟨m.mb,0,none⟩),.agg (zT q rv kv tv),.int .i64 now] w (zHz c N w (fun er a c'=>OpR (fun f er f'=>zUe f q.member q.gen now er f') c q.group er c')):=by
 obtain ⟨w1,hw1,f1,x0,x1,x2⟩:=zKp w q rv kv tv;have F1:=zz f1;have X1:=zz x1;have X2:=zz x2;have HM:=zz (hM.old f1);have HC:=zz (hC.old f1);have HC0:=zz hC;have L2:=zz (zA x2);unfold zT at x0 hw1 ⊢;unfold yE at hw1;rw [hk] at x0 hw1 ⊢;have d0:=fun j=>zB x0 j
 have D1:=zz (fun j=>zB x0 j);have X0:=zz x0;rw [hw1] at d0;have dcv:=(zB HM.out.b 1).trans (show _=some m.cv from rfl);rw [hcv] at dcv;clear hM hC f1 x0 x1 x2;go_enter Tryz.func41,Tryz.ntmps41
 go_wp2_with fail
 rw [←hw1];clear d0 hw1;have ycv:∀y:Lcl.InS (fun w'=>Fr (fun _=>False) w1 w'),y.w.cell? ⟨m.mb,1,none⟩=some (.pointer (some ⟨c.cb,0,none⟩)):=fun y=>y.h.cel dcv
 have y16:∀y:Lcl.InS (fun w'=>Fr (fun _=>False) w1 w'),y.w.cell? ⟨w.heap.size,16,none⟩=some (.string q.group):=fun y=>y.h.cel ((zB X0.out 16).trans rfl)
 have y17:∀y:Lcl.InS (fun w'=>Fr (fun _=>False) w1 w'),y.w.cell? ⟨w.heap.size,17,none⟩=some (.int .i64 q.member):=fun y=>y.h.cel ((zB X0.out 17).trans rfl)
 have y18:∀y:Lcl.InS (fun w'=>Fr (fun _=>False) w1 w'),y.w.cell? ⟨w.heap.size,18,none⟩=some (.int .i64 q.gen):=fun y=>y.h.cel ((zB X0.out 18).trans rfl)
 have FD:=zz (Fr.same w1).drew;refine Lcl.wp_region_calm (by kernel_rfl) [(true,[0,1,2,4,6,8,10]),(false,[3,5,7,9])] #[0,1,3,7,0,16,0,64,0,256,0,2047,4095,8191] [0,1,2,3,4,5,6,7,8,9,10] 3 #[true,true,true,true,true,true,true,true,true,true,true,false,false,false] (by kernel_rfl) (by kernel_rfl) (by kernel_rfl) (fun w'=>Fr (fun _=>False) w1 w') (Fr.same w1).drew (fun d c a v w h=>by cases d <;> exact h) ?_;simp only [Lcl.opsOf,List.map_cons,List.map_nil,List.getElem?_toArray,List.getElem?_cons_succ,List.getElem?_cons_zero,Option.getD_some];refine Lcl.wpCalm_t ?_
 repeat (go_big_quiet_step (rfl))
 refine wpQuiet_nil ?_;refine Lcl.wpCalm_f ?_
 repeat (go_big_quiet_step (rfl))
 refine wpQuiet_nil ?_;refine Lcl.wpCalm_nil ?_;clear ycv y16 y17 y18 dcv;have X3:=zz ((FD.out.block _ (zA X1.out) fun h=>h).trans X1.out);have CD:=zz (HC.out.old FD.out);have FD1:=zz (F1.out.tr FD.out);have XP:=zz ((FD.out.block _ (zA X2.out) fun h=>h).trans X2.out);have XQ:=zz ((FD.out.block _ (zA X0.out) fun h=>h).trans X0.out);have MD:=zz (HM.out.old FD.out);have LD:=zz (Nat.lt_of_lt_of_le L2.out FD.out.size);generalize w1.drew=wd at *;have OW:=zz (zRv CD.out hN q.group hg q.member q.gen now hm);refine Lcl.wpG_run [11,12,13] _ _ _ (by kernel_rfl) ?_;simp only [List.map_cons,List.map_nil,List.getElem?_toArray,List.getElem?_cons_succ,List.getElem?_cons_zero,Option.getD_some];go_wp2_with fail
 refine OW.out.mono ?_;rintro e w5 ⟨er,c',rfl,hst,hr⟩;have ST:=zz hst;have HR:=zz hr;have hrb:¬c.T (w.heap.size+1):=fun h=>by
  rcases h with h | ⟨x,hx,h⟩
  ·have:=(HC0.out.low.1 _ h).2; omega
  ·have:=(HC0.out.low.2 x hx _ h).2; omega
 have X5:=zz ((hst.2.2.2.block _ (zA X3.out) hrb).trans X3.out);clear hst hr OW hrb;go_wp2_with fail
 refine (kR er _).mono ?_;rintro e w8 ⟨rfl,hf8⟩;have X8:=(hf8.block _ (zA X5.out) fun h=>h).trans X5.out;have R9:=setRow_heap w8 (w.heap.size+1) _ (zS er 0 0 0 0 0 0 (.slice none 0 0) (.slice none 0 0) (.slice none 0 0)) 31 (0,0) X8;have FN:=zz (zZ ((Fr.same w8).mono (S':=fun i=>i=w.heap.size+1) fun _ h=>h.elim) (g:=w.heap.size+1) (.inl rfl) (zS er 0 0 0 0 0 0 (.slice none 0 0) (.slice none 0 0) (.slice none 0 0)));have F8:=zz hf8;clear hf8;go_wp2_with (refine zJ rfl _ _ rfl (w.heap.size+1) er 0 rfl rfl _ X8 rfl ?_)
 try simp only [Exit.inBlock,Exit.then]
 refine bodyPost_ret (results_cell_row rfl _ _ (w.heap.size+1) 31 _ (0,0) _ rfl R9 Tryz.underlying31 rfl (by kernel_rfl)) rfl ?_;have L3:=zA X3.out;exact ⟨er,0,c',rfl,(ST.out.more F8.out).out FD1.out HC0.out (Nat.le_succ _) L3 FN.out,HR.out⟩
theorem zPl {m:zG} (hM:zW w m) {c:zO} {N:Nat} (hC:xd w c N) (hcv:m.cv=.pointer (some ⟨c.cb,0,none⟩)) (hN:N≤900000) (q:Req) (rv kv tv:Value) (hk:q.kind=11) (hg:q.group.size≤maxLen) (hm:-1≤q.member∧q.member≤2199023255552) (now:Int):
  Calls Tryz.prog 41 #[.pointer (some ⟨m.mb,0,none⟩),.agg (zT q rv kv tv),.int .i64 now] w (zHz c N w (fun er a c'=>OpR (fun f er f'=>zLx f q.member now er f') c q.group er c')):=by
 obtain ⟨w1,hw1,f1,x0,x1,x2⟩:=zKp w q rv kv tv;have F1:=zz f1;have X1:=zz x1;have X2:=zz x2;have HM:=zz (hM.old f1);have HC:=zz (hC.old f1);have HC0:=zz hC;have L2:=zz (zA x2);unfold zT at x0 hw1 ⊢;unfold yE at hw1;rw [hk] at x0 hw1 ⊢;have d0:=fun j=>zB x0 j
 have D1:=zz (fun j=>zB x0 j);have X0:=zz x0;rw [hw1] at d0;have dcv:=(zB HM.out.b 1).trans (show _=some m.cv from rfl);rw [hcv] at dcv;clear hM hC f1 x0 x1 x2;go_enter Tryz.func41,Tryz.ntmps41
 go_wp2_with fail
 rw [←hw1];clear d0 hw1;have ycv:∀y:Lcl.InS (fun w'=>Fr (fun _=>False) w1 w'),y.w.cell? ⟨m.mb,1,none⟩=some (.pointer (some ⟨c.cb,0,none⟩)):=fun y=>y.h.cel dcv
 have y16:∀y:Lcl.InS (fun w'=>Fr (fun _=>False) w1 w'),y.w.cell? ⟨w.heap.size,16,none⟩=some (.string q.group):=fun y=>y.h.cel ((zB X0.out 16).trans rfl)
 have y17:∀y:Lcl.InS (fun w'=>Fr (fun _=>False) w1 w'),y.w.cell? ⟨w.heap.size,17,none⟩=some (.int .i64 q.member):=fun y=>y.h.cel ((zB X0.out 17).trans rfl)
 have FD:=zz (Fr.same w1).drew;refine Lcl.wp_region_calm (by kernel_rfl) [(true,[0,1,2,4,6,8]),(false,[3,5,7])] #[0,1,3,7,0,16,0,64,0,511,1023,2047] [0,1,2,3,4,5,6,7,8] 3 #[true,true,true,true,true,true,true,true,true,false,false,false] (by kernel_rfl) (by kernel_rfl) (by kernel_rfl) (fun w'=>Fr (fun _=>False) w1 w') (Fr.same w1).drew (fun d c a v w h=>by cases d <;> exact h) ?_;simp only [Lcl.opsOf,List.map_cons,List.map_nil,List.getElem?_toArray,List.getElem?_cons_succ,List.getElem?_cons_zero,Option.getD_some];refine Lcl.wpCalm_t ?_
 repeat (go_big_quiet_step (rfl))
 refine wpQuiet_nil ?_;refine Lcl.wpCalm_f ?_
 repeat (go_big_quiet_step (rfl))
 refine wpQuiet_nil ?_;refine Lcl.wpCalm_nil ?_;clear ycv y16 y17 dcv;have X3:=zz ((FD.out.block _ (zA X1.out) fun h=>h).trans X1.out);have CD:=zz (HC.out.old FD.out);have FD1:=zz (F1.out.tr FD.out);have XP:=zz ((FD.out.block _ (zA X2.out) fun h=>h).trans X2.out);have XQ:=zz ((FD.out.block _ (zA X0.out) fun h=>h).trans X0.out);have MD:=zz (HM.out.old FD.out);have LD:=zz (Nat.lt_of_lt_of_le L2.out FD.out.size);generalize w1.drew=wd at *;have OW:=zz (zOw CD.out hN q.group hg q.member now hm);refine Lcl.wpG_run [9,10,11] _ _ _ (by kernel_rfl) ?_;simp only [List.map_cons,List.map_nil,List.getElem?_toArray,List.getElem?_cons_succ,List.getElem?_cons_zero,Option.getD_some];go_wp2_with fail
 refine OW.out.mono ?_;rintro e w5 ⟨er,c',rfl,hst,hr⟩;have ST:=zz hst;have HR:=zz hr;have hrb:¬c.T (w.heap.size+1):=fun h=>by
  rcases h with h | ⟨x,hx,h⟩
  ·have:=(HC0.out.low.1 _ h).2; omega
  ·have:=(HC0.out.low.2 x hx _ h).2; omega
 have X5:=zz ((hst.2.2.2.block _ (zA X3.out) hrb).trans X3.out);clear hst hr OW hrb;go_wp2_with fail
 refine (kR er _).mono ?_;rintro e w8 ⟨rfl,hf8⟩;have X8:=(hf8.block _ (zA X5.out) fun h=>h).trans X5.out;have R9:=setRow_heap w8 (w.heap.size+1) _ (zS er 0 0 0 0 0 0 (.slice none 0 0) (.slice none 0 0) (.slice none 0 0)) 31 (0,0) X8;have FN:=zz (zZ ((Fr.same w8).mono (S':=fun i=>i=w.heap.size+1) fun _ h=>h.elim) (g:=w.heap.size+1) (.inl rfl) (zS er 0 0 0 0 0 0 (.slice none 0 0) (.slice none 0 0) (.slice none 0 0)));have F8:=zz hf8;clear hf8;go_wp2_with (refine zJ rfl _ _ rfl (w.heap.size+1) er 0 rfl rfl _ X8 rfl ?_)
 try simp only [Exit.inBlock,Exit.then]
 refine bodyPost_ret (results_cell_row rfl _ _ (w.heap.size+1) 31 _ (0,0) _ rfl R9 Tryz.underlying31 rfl (by kernel_rfl)) rfl ?_;have L3:=zA X3.out;exact ⟨er,0,c',rfl,(ST.out.more F8.out).out FD1.out HC0.out (Nat.le_succ _) L3 FN.out,HR.out⟩
theorem zMd {m:zG} (hM:zW w m) {c:zO} {N:Nat} (hC:xd w c N) (hcv:m.cv=.pointer (some ⟨c.cb,0,none⟩)) (hN:N≤900000) (q:Req) (rv kv tv:Value) (hk:q.kind=12) (hg:q.group.size≤maxLen) (hm:-1≤q.member∧q.member≤2199023255552) (now:Int):
  Calls Tryz.prog 41 #[.pointer (some ⟨m.mb,0,none⟩),.agg (zT q rv kv tv),.int .i64 now] w (zHz c N w (fun er a c'=>(zBx c q.group q.member q.gen≠0∧er=zBx c q.group q.member q.gen∧c'=c)∨(zBx c q.group q.member q.gen=0∧er=yb 1000 c.O ⟨q.group,q.name,q.index⟩ q.from'∧c'= { c with O:=jJ 1000 c.O ⟨q.group,q.name,q.index⟩ q.from' }))):=by
 obtain ⟨w1,hw1,f1,x0,x1,x2⟩:=zKp w q rv kv tv;have F1:=zz f1;have X1:=zz x1;have X2:=zz x2;have HM:=zz (hM.old f1);have HC:=zz (hC.old f1);have HC0:=zz hC;have L2:=zz (zA x2);unfold zT at x0 hw1 ⊢;unfold yE at hw1;rw [hk] at x0 hw1 ⊢;have d0:=fun j=>zB x0 j
 have D1:=zz (fun j=>zB x0 j);have X0:=zz x0;rw [hw1] at d0;have dcv:=(zB HM.out.b 1).trans (show _=some m.cv from rfl);rw [hcv] at dcv;clear hM hC f1 x0 x1 x2;go_enter Tryz.func41,Tryz.ntmps41
 go_wp2_with fail
 rw [←hw1];clear d0 hw1;have ycv:∀y:Lcl.InS (fun w'=>Fr (fun _=>False) w1 w'),y.w.cell? ⟨m.mb,1,none⟩=some (.pointer (some ⟨c.cb,0,none⟩)):=fun y=>y.h.cel dcv
 have y16:∀y:Lcl.InS (fun w'=>Fr (fun _=>False) w1 w'),y.w.cell? ⟨w.heap.size,16,none⟩=some (.string q.group):=fun y=>y.h.cel ((zB X0.out 16).trans rfl)
 have y17:∀y:Lcl.InS (fun w'=>Fr (fun _=>False) w1 w'),y.w.cell? ⟨w.heap.size,17,none⟩=some (.int .i64 q.member):=fun y=>y.h.cel ((zB X0.out 17).trans rfl)
 have y18:∀y:Lcl.InS (fun w'=>Fr (fun _=>False) w1 w'),y.w.cell? ⟨w.heap.size,18,none⟩=some (.int .i64 q.gen):=fun y=>y.h.cel ((zB X0.out 18).trans rfl)
 have FD:=zz (Fr.same w1).drew;refine Lcl.wp_region_calm (by kernel_rfl) [(true,[0,1,2,4,6,8]),(false,[3,5,7,9])] #[0,1,3,7,0,16,0,64,0,256,1023,2047] [0,1,2,3,4,5,6,7,8,9] 2 #[true,true,true,true,true,true,true,true,true,true,false,false] (by kernel_rfl) (by kernel_rfl) (by kernel_rfl) (fun w'=>Fr (fun _=>False) w1 w') (Fr.same w1).drew (fun d c a v w h=>by cases d <;> exact h) ?_;simp only [Lcl.opsOf,List.map_cons,List.map_nil,List.getElem?_toArray,List.getElem?_cons_succ,List.getElem?_cons_zero,Option.getD_some];refine Lcl.wpCalm_t ?_
 repeat (go_big_quiet_step (rfl))
 refine wpQuiet_nil ?_;refine Lcl.wpCalm_f ?_
 repeat (go_big_quiet_step (rfl))
 refine wpQuiet_nil ?_;refine Lcl.wpCalm_nil ?_;clear ycv y16 y17 y18 dcv;have X3:=zz ((FD.out.block _ (zA X1.out) fun h=>h).trans X1.out);have CD:=zz (HC.out.old FD.out);have FD1:=zz (F1.out.tr FD.out);have XP:=zz ((FD.out.block _ (zA X2.out) fun h=>h).trans X2.out);have XQ:=zz ((FD.out.block _ (zA X0.out) fun h=>h).trans X0.out);have MD:=zz (HM.out.old FD.out);have LD:=zz (Nat.lt_of_lt_of_le L2.out FD.out.size);generalize w1.drew=wd at *;have OW:=zz (zYf CD.out hN q.group hg q.member q.gen hm);refine Lcl.wpG_run [10,11] _ _ _ (by kernel_rfl) ?_;simp only [List.map_cons,List.map_nil,List.getElem?_toArray,List.getElem?_cons_succ,List.getElem?_cons_zero,Option.getD_some];go_wp2_with fail
 refine OW.out.mono ?_;rintro e w5 ⟨rfl,f5⟩;have L3:=zA X3.out;have X5:=zz ((f5.block _ (zA X3.out) fun h=>h).trans X3.out);have F5:=zz (FD1.out.tr f5);have C5:=zz (CD.out.old f5);have XP5:=zz ((f5.block _ (zA XP.out) fun h=>h).trans XP.out);have XQ5:=zz ((f5.block _ (zA XQ.out) fun h=>h).trans XQ.out);have M5:=zz (MD.out.old f5);have L5:=zz (Nat.lt_of_lt_of_le L3 f5.size);clear f5 OW;by_cases hmy:zBx c q.group q.member q.gen=0
 ·have MY:=zz hmy
  rw [hmy];clear hmy;go_wp2_with fail
  have dcv:=(zB M5.out.b 1).trans (show _=some m.cv from rfl);rw [hcv] at dcv;have ycv:∀y:Lcl.InS (fun w'=>Fr (fun _=>False) w5 w'),y.w.cell? ⟨m.mb,1,none⟩=some (.pointer (some ⟨c.cb,0,none⟩)):=fun y=>y.h.cel dcv
  have y16:∀y:Lcl.InS (fun w'=>Fr (fun _=>False) w5 w'),y.w.cell? ⟨w.heap.size,16,none⟩=some (.string q.group):=fun y=>y.h.cel ((zB XQ5.out 16).trans rfl)
  have y4:∀y:Lcl.InS (fun w'=>Fr (fun _=>False) w5 w'),y.w.cell? ⟨w.heap.size,4,none⟩=some (.int .i64 q.from'):=fun y=>y.h.cel ((zB XQ5.out 4).trans rfl)
  have p0:∀y:Lcl.InS (fun w'=>Fr (fun _=>False) w5 w'),y.w.cell? ⟨w.heap.size+2,0,none⟩=some (.string q.name):=fun y=>y.h.cel ((zB XP5.out 0).trans rfl)
  have p1:∀y:Lcl.InS (fun w'=>Fr (fun _=>False) w5 w'),y.w.cell? ⟨w.heap.size+2,1,none⟩=some (.int .i64 q.index):=fun y=>y.h.cel ((zB XP5.out 1).trans rfl)
  have FE:=zz (Fr.same w5).drew;refine Lcl.wp_region_calm (by kernel_rfl) [(true,[0,1,2,4,7]),(false,[3,5,6,8])] #[0,1,3,7,0,16,0,0,128,511,1023,2047] [0,1,2,3,4,5,6,7,8] 3 #[true,true,true,true,true,true,true,true,true,false,false,false] (by kernel_rfl) (by kernel_rfl) (by kernel_rfl) (fun w'=>Fr (fun _=>False) w5 w') (Fr.same w5).drew (fun d c a v w h=>by cases d <;> exact h) ?_;simp only [Lcl.opsOf,List.map_cons,List.map_nil,List.getElem?_toArray,List.getElem?_cons_succ,List.getElem?_cons_zero,Option.getD_some];refine Lcl.wpCalm_t ?_
  repeat (go_big_quiet_step (rfl))
  refine wpQuiet_nil ?_;refine Lcl.wpCalm_f ?_
  repeat (go_big_quiet_step (rfl))
  refine wpQuiet_nil ?_;refine Lcl.wpCalm_nil ?_;clear ycv y16 y4 p0 p1 dcv;have X6:=zz ((FE.out.block _ (zA X5.out) fun h=>h).trans X5.out);have C6:=zz (C5.out.old FE.out);have F6:=zz (F5.out.tr FE.out);have L6:=zz (Nat.lt_of_lt_of_le L5.out FE.out.size);generalize w5.drew=we at *;have CW:=zz (zLy C6.out q.group q.name q.index q.from');refine Lcl.wpG_run [9,10,11] _ _ _ (by kernel_rfl) ?_;simp only [List.map_cons,List.map_nil,List.getElem?_toArray,List.getElem?_cons_succ,List.getElem?_cons_zero,Option.getD_some];go_wp2_with fail
  refine CW.out.mono ?_;rintro e w7 ⟨rfl,hst⟩;have ST:=zz hst;have hrb:¬c.T (w.heap.size+1):=fun h=>by
   rcases h with h | ⟨x,hx,h⟩
   ·have:=(HC0.out.low.1 _ h).2; omega
   ·have:=(HC0.out.low.2 x hx _ h).2; omega
  have X7:=zz ((hst.2.2.2.block _ (zA X6.out) hrb).trans X6.out);clear hst CW hrb;obtain ⟨er,her⟩:∃er,er=yb 1000 c.O ⟨q.group,q.name,q.index⟩ q.from':=⟨_,rfl⟩;rw [←her];have ER:=zz her;clear her;go_wp2_with fail
  refine (kR er _).mono ?_;rintro e w8 ⟨rfl,hf8⟩;have X8:=(hf8.block _ (zA X7.out) fun h=>h).trans X7.out;have R9:=setRow_heap w8 (w.heap.size+1) _ (zS er 0 0 0 0 0 0 (.slice none 0 0) (.slice none 0 0) (.slice none 0 0)) 31 (0,0) X8;have FN:=zz (zZ ((Fr.same w8).mono (S':=fun i=>i=w.heap.size+1) fun _ h=>h.elim) (g:=w.heap.size+1) (.inl rfl) (zS er 0 0 0 0 0 0 (.slice none 0 0) (.slice none 0 0) (.slice none 0 0)));have F8:=zz hf8;clear hf8;go_wp2_with (refine zJ rfl _ _ rfl (w.heap.size+1) er 0 rfl rfl _ X8 rfl ?_)
  try simp only [Exit.inBlock,Exit.then]
  refine bodyPost_ret (results_cell_row rfl _ _ (w.heap.size+1) 31 _ (0,0) _ rfl R9 Tryz.underlying31 rfl (by kernel_rfl)) rfl ?_;exact ⟨er,0,_,rfl,(ST.out.more F8.out).out F6.out HC0.out (Nat.le_succ _) L6.out FN.out,.inr ⟨MY.out,ER.out,rfl⟩⟩
 ·have hm2:(zBx c q.group q.member q.gen != 0)=true:=by rw [bne_iff_ne]; exact hmy
  have MY:=zz hmy;obtain ⟨er,her⟩:∃er,er=zBx c q.group q.member q.gen:=⟨_,rfl⟩;rw [←her] at hm2 ⊢;have ER:=zz her;clear hmy her;go_wp2_with fail
  refine (kR er _).mono ?_;rintro e w8 ⟨rfl,hf8⟩;have X8:=(hf8.block _ (zA X5.out) fun h=>h).trans X5.out;have R9:=setRow_heap w8 (w.heap.size+1) _ (zS er 0 0 0 0 0 0 (.slice none 0 0) (.slice none 0 0) (.slice none 0 0)) 31 (0,0) X8;have FN:=zz (zZ ((Fr.same w8).mono (S':=fun i=>i=w.heap.size+1) fun _ h=>h.elim) (g:=w.heap.size+1) (.inl rfl) (zS er 0 0 0 0 0 0 (.slice none 0 0) (.slice none 0 0) (.slice none 0 0)));have F8:=zz hf8;clear hf8;go_wp2_with (refine zJ rfl _ _ rfl (w.heap.size+1) er 0 rfl rfl _ X8 rfl ?_)
  try simp only [Exit.inBlock,Exit.then]
  refine bodyPost_ret (results_cell_row rfl _ _ (w.heap.size+1) 31 _ (0,0) _ rfl R9 Tryz.underlying31 rfl (by kernel_rfl)) rfl ?_;exact ⟨er,0,c,rfl,(zX.same C5.out F8.out).out F5.out HC0.out (Nat.le_succ _) L5.out FN.out,.inl ⟨MY.out,ER.out,rfl⟩⟩
theorem zYp {m:zG} (hM:zW w m) {c:zO} {N:Nat} (hC:xd w c N) (hcv:m.cv=.pointer (some ⟨c.cb,0,none⟩)) (hN:N≤900000) (q:Req) (rv kv tv:Value) (hk:q.kind=13) (hky:yf ⟨q.group,q.name,q.index⟩) (hg:q.group.size≤maxLen) (hm:-1≤q.member∧q.member≤2199023255552) (now:Int):
  Calls Tryz.prog 41 #[.pointer (some ⟨m.mb,0,none⟩),.agg (zT q rv kv tv),.int .i64 now] w (zHz c N w (fun er a c'=>er=0∧a=(xQ c.O ⟨q.group,q.name,q.index⟩).getD (-1)∧c'=c)):=by
 obtain ⟨w1,hw1,f1,x0,x1,x2⟩:=zKp w q rv kv tv;have F1:=zz f1;have X1:=zz x1;have X2:=zz x2;have HM:=zz (hM.old f1);have HC:=zz (hC.old f1);have HC0:=zz hC;have L2:=zz (zA x2);unfold zT at x0 hw1 ⊢;unfold yE at hw1;rw [hk] at x0 hw1 ⊢;have d0:=fun j=>zB x0 j
 have D1:=zz (fun j=>zB x0 j);have X0:=zz x0;rw [hw1] at d0;have dcv:=(zB HM.out.b 1).trans (show _=some m.cv from rfl);rw [hcv] at dcv;clear hM hC f1 x0 x1 x2;go_enter Tryz.func41,Tryz.ntmps41
 go_wp2_with fail
 rw [←hw1];clear d0 hw1;have ycv:∀y:Lcl.InS (fun w'=>Fr (fun _=>False) w1 w'),y.w.cell? ⟨m.mb,1,none⟩=some (.pointer (some ⟨c.cb,0,none⟩)):=fun y=>y.h.cel dcv
 have y16:∀y:Lcl.InS (fun w'=>Fr (fun _=>False) w1 w'),y.w.cell? ⟨w.heap.size,16,none⟩=some (.string q.group):=fun y=>y.h.cel ((zB X0.out 16).trans rfl)
 have p0:∀y:Lcl.InS (fun w'=>Fr (fun _=>False) w1 w'),y.w.cell? ⟨w.heap.size+2,0,none⟩=some (.string q.name):=fun y=>y.h.cel ((zB X2.out 0).trans rfl)
 have p1:∀y:Lcl.InS (fun w'=>Fr (fun _=>False) w1 w'),y.w.cell? ⟨w.heap.size+2,1,none⟩=some (.int .i64 q.index):=fun y=>y.h.cel ((zB X2.out 1).trans rfl)
 have FD:=zz (Fr.same w1).drew;refine Lcl.wp_region_calm (by kernel_rfl) [(true,[0,1,2,4]),(false,[3,5,6])] #[0,1,3,7,0,16,0,127,255,511,511,1023,4095] [0,1,2,3,4,5,6] 6 #[true,true,true,true,true,true,true,false,false,false,false,false,false] (by kernel_rfl) (by kernel_rfl) (by kernel_rfl) (fun w'=>Fr (fun _=>False) w1 w') (Fr.same w1).drew (fun d c a v w h=>by cases d <;> exact h) ?_;simp only [Lcl.opsOf,List.map_cons,List.map_nil,List.getElem?_toArray,List.getElem?_cons_succ,List.getElem?_cons_zero,Option.getD_some];refine Lcl.wpCalm_t ?_
 repeat (go_big_quiet_step (rfl))
 refine wpQuiet_nil ?_;refine Lcl.wpCalm_f ?_
 repeat (go_big_quiet_step (rfl))
 refine wpQuiet_nil ?_;refine Lcl.wpCalm_nil ?_;clear ycv y16 dcv p0 p1;have X3:=zz ((FD.out.block _ (zA X1.out) fun h=>h).trans X1.out);have CD:=zz (HC.out.old FD.out);have FD1:=zz (F1.out.tr FD.out);have XP:=zz ((FD.out.block _ (zA X2.out) fun h=>h).trans X2.out);have XQ:=zz ((FD.out.block _ (zA X0.out) fun h=>h).trans X0.out);have MD:=zz (HM.out.old FD.out);have LD:=zz (Nat.lt_of_lt_of_le L2.out FD.out.size);generalize w1.drew=wd at *;have OW:=zz (zYg CD.out q.group q.name q.index hky);obtain ⟨go,hgo⟩:∃go,go=xQ c.O ⟨q.group,q.name,q.index⟩:=⟨_,rfl⟩;unfold zOx at OW;rw [←hgo] at OW;have AT:=zz (show go.getD (-1)=(xQ c.O ⟨q.group,q.name,q.index⟩).getD (-1) by rw [hgo]);clear hgo;refine Lcl.wpG_one 7 rfl (by kernel_rfl) ?_;go_wp2_with fail
 refine OW.out.mono ?_;rintro e w5 ⟨rfl,f5⟩;have L3:=zA X3.out;have X5:=zz ((f5.block _ (zA X3.out) fun h=>h).trans X3.out);have F5:=zz (FD1.out.tr f5);have C5:=zz (CD.out.old f5);have L5:=zz (Nat.lt_of_lt_of_le L3 f5.size);clear f5 OW;cases go with
 | none=>
  dsimp only [Option.getD,Option.isSome] at AT ⊢;go_wp2_with fail
  refine ⟨fun h=>absurd h (by decide),?_⟩;refine Lcl.wpG_one 8 rfl (by kernel_rfl) ?_;go_wp2_with fail
  refine ⟨fun h=>absurd h (by decide),?_⟩;refine Lcl.wpG_two 9 10 rfl rfl (by kernel_rfl) ?_ ?_
  ·go_wp2_with fail
   refine ⟨fun h=>absurd h (by decide),?_⟩;refine Lcl.wpG_two 10 11 rfl rfl (by kernel_rfl) ?_ ?_
   ·go_wp2_with fail
    refine ⟨fun h=>absurd h (by decide),?_⟩;refine Lcl.wpG_run [11,12] _ _ _ (by kernel_rfl) ?_;simp only [List.map_cons,List.map_nil,List.getElem?_toArray,List.getElem?_cons_succ,List.getElem?_cons_zero,Option.getD_some];go_wp2_with fail
    refine (yB _ _).mono ?_;rintro e w8 ⟨rfl,hf8⟩;have X8:=(hf8.block _ (zA X5.out) fun h=>h).trans X5.out;have R9:=setRow_heap w8 (w.heap.size+1) _ (zS 0 (-1) 0 0 0 0 0 (.slice none 0 0) (.slice none 0 0) (.slice none 0 0)) 31 (0,0) X8;have FN:=zz (zZ ((Fr.same w8).mono (S':=fun i=>i=w.heap.size+1) fun _ h=>h.elim) (g:=w.heap.size+1) (.inl rfl) (zS 0 (-1) 0 0 0 0 0 (.slice none 0 0) (.slice none 0 0) (.slice none 0 0)));have F8:=zz hf8;clear hf8;go_wp2_with (refine zJ rfl _ _ rfl (w.heap.size+1) 0 (-1) rfl rfl _ X8 rfl ?_)
    try simp only [Exit.inBlock,Exit.then]
    refine bodyPost_ret (results_cell_row rfl _ _ (w.heap.size+1) 31 _ (0,0) _ rfl R9 Tryz.underlying31 rfl (by kernel_rfl)) rfl ?_;exact ⟨0,_,c,rfl,(zX.same C5.out F8.out).out F5.out HC0.out (Nat.le_succ _) L5.out FN.out,rfl,AT.out,rfl⟩
   ·go_wp2_with fail
    refine ⟨fun h=>absurd h (by decide),?_⟩;refine Lcl.wpG_run [10,12] _ _ _ (by kernel_rfl) ?_;simp only [List.map_cons,List.map_nil,List.getElem?_toArray,List.getElem?_cons_succ,List.getElem?_cons_zero,Option.getD_some];go_wp2_with fail
    refine (yB _ _).mono ?_;rintro e w8 ⟨rfl,hf8⟩;have X8:=(hf8.block _ (zA X5.out) fun h=>h).trans X5.out;have R9:=setRow_heap w8 (w.heap.size+1) _ (zS 0 (-1) 0 0 0 0 0 (.slice none 0 0) (.slice none 0 0) (.slice none 0 0)) 31 (0,0) X8;have FN:=zz (zZ ((Fr.same w8).mono (S':=fun i=>i=w.heap.size+1) fun _ h=>h.elim) (g:=w.heap.size+1) (.inl rfl) (zS 0 (-1) 0 0 0 0 0 (.slice none 0 0) (.slice none 0 0) (.slice none 0 0)));have F8:=zz hf8;clear hf8;go_wp2_with (refine zJ rfl _ _ rfl (w.heap.size+1) 0 (-1) rfl rfl _ X8 rfl ?_)
    try simp only [Exit.inBlock,Exit.then]
    refine bodyPost_ret (results_cell_row rfl _ _ (w.heap.size+1) 31 _ (0,0) _ rfl R9 Tryz.underlying31 rfl (by kernel_rfl)) rfl ?_;exact ⟨0,_,c,rfl,(zX.same C5.out F8.out).out F5.out HC0.out (Nat.le_succ _) L5.out FN.out,rfl,AT.out,rfl⟩
  ·go_wp2_with fail
   refine ⟨fun h=>absurd h (by decide),?_⟩;refine Lcl.wpG_run [9,11,12] _ _ _ (by kernel_rfl) ?_;simp only [List.map_cons,List.map_nil,List.getElem?_toArray,List.getElem?_cons_succ,List.getElem?_cons_zero,Option.getD_some];go_wp2_with fail
   refine (yB _ _).mono ?_;rintro e w8 ⟨rfl,hf8⟩;have X8:=(hf8.block _ (zA X5.out) fun h=>h).trans X5.out;have R9:=setRow_heap w8 (w.heap.size+1) _ (zS 0 (-1) 0 0 0 0 0 (.slice none 0 0) (.slice none 0 0) (.slice none 0 0)) 31 (0,0) X8;have FN:=zz (zZ ((Fr.same w8).mono (S':=fun i=>i=w.heap.size+1) fun _ h=>h.elim) (g:=w.heap.size+1) (.inl rfl) (zS 0 (-1) 0 0 0 0 0 (.slice none 0 0) (.slice none 0 0) (.slice none 0 0)));have F8:=zz hf8;clear hf8;go_wp2_with (refine zJ rfl _ _ rfl (w.heap.size+1) 0 (-1) rfl rfl _ X8 rfl ?_)
   try simp only [Exit.inBlock,Exit.then]
   refine bodyPost_ret (results_cell_row rfl _ _ (w.heap.size+1) 31 _ (0,0) _ rfl R9 Tryz.underlying31 rfl (by kernel_rfl)) rfl ?_;exact ⟨0,_,c,rfl,(zX.same C5.out F8.out).out F5.out HC0.out (Nat.le_succ _) L5.out FN.out,rfl,AT.out,rfl⟩
 | some v=>
  dsimp only [Option.getD,Option.isSome] at AT ⊢;go_wp2_with fail
  refine ⟨fun h=>absurd h (by decide),?_⟩;refine Lcl.wpG_one 8 rfl (by kernel_rfl) ?_;go_wp2_with fail
  refine ⟨fun h=>absurd h (by decide),?_⟩;refine Lcl.wpG_two 9 10 rfl rfl (by kernel_rfl) ?_ ?_
  ·go_wp2_with fail
   refine ⟨fun h=>absurd h (by decide),?_⟩;refine Lcl.wpG_two 10 11 rfl rfl (by kernel_rfl) ?_ ?_
   ·go_wp2_with fail
    refine ⟨fun h=>absurd h (by decide),?_⟩;refine Lcl.wpG_run [11,12] _ _ _ (by kernel_rfl) ?_;simp only [List.map_cons,List.map_nil,List.getElem?_toArray,List.getElem?_cons_succ,List.getElem?_cons_zero,Option.getD_some];go_wp2_with fail
    refine (yB _ _).mono ?_;rintro e w8 ⟨rfl,hf8⟩;have X8:=(hf8.block _ (zA X5.out) fun h=>h).trans X5.out;have R9:=setRow_heap w8 (w.heap.size+1) _ (zS 0 (v) 0 0 0 0 0 (.slice none 0 0) (.slice none 0 0) (.slice none 0 0)) 31 (0,0) X8;have FN:=zz (zZ ((Fr.same w8).mono (S':=fun i=>i=w.heap.size+1) fun _ h=>h.elim) (g:=w.heap.size+1) (.inl rfl) (zS 0 (v) 0 0 0 0 0 (.slice none 0 0) (.slice none 0 0) (.slice none 0 0)));have F8:=zz hf8;clear hf8;go_wp2_with (refine zJ rfl _ _ rfl (w.heap.size+1) 0 (v) rfl rfl _ X8 rfl ?_)
    try simp only [Exit.inBlock,Exit.then]
    refine bodyPost_ret (results_cell_row rfl _ _ (w.heap.size+1) 31 _ (0,0) _ rfl R9 Tryz.underlying31 rfl (by kernel_rfl)) rfl ?_;exact ⟨0,_,c,rfl,(zX.same C5.out F8.out).out F5.out HC0.out (Nat.le_succ _) L5.out FN.out,rfl,AT.out,rfl⟩
   ·go_wp2_with fail
    refine ⟨fun h=>absurd h (by decide),?_⟩;refine Lcl.wpG_run [10,12] _ _ _ (by kernel_rfl) ?_;simp only [List.map_cons,List.map_nil,List.getElem?_toArray,List.getElem?_cons_succ,List.getElem?_cons_zero,Option.getD_some];go_wp2_with fail
    refine (yB _ _).mono ?_;rintro e w8 ⟨rfl,hf8⟩;have X8:=(hf8.block _ (zA X5.out) fun h=>h).trans X5.out;have R9:=setRow_heap w8 (w.heap.size+1) _ (zS 0 (v) 0 0 0 0 0 (.slice none 0 0) (.slice none 0 0) (.slice none 0 0)) 31 (0,0) X8;have FN:=zz (zZ ((Fr.same w8).mono (S':=fun i=>i=w.heap.size+1) fun _ h=>h.elim) (g:=w.heap.size+1) (.inl rfl) (zS 0 (v) 0 0 0 0 0 (.slice none 0 0) (.slice none 0 0) (.slice none 0 0)));have F8:=zz hf8;clear hf8;go_wp2_with (refine zJ rfl _ _ rfl (w.heap.size+1) 0 (v) rfl rfl _ X8 rfl ?_)
    try simp only [Exit.inBlock,Exit.then]
    refine bodyPost_ret (results_cell_row rfl _ _ (w.heap.size+1) 31 _ (0,0) _ rfl R9 Tryz.underlying31 rfl (by kernel_rfl)) rfl ?_;exact ⟨0,_,c,rfl,(zX.same C5.out F8.out).out F5.out HC0.out (Nat.le_succ _) L5.out FN.out,rfl,AT.out,rfl⟩
  ·go_wp2_with fail
   refine ⟨fun h=>absurd h (by decide),?_⟩;refine Lcl.wpG_run [9,11,12] _ _ _ (by kernel_rfl) ?_;simp only [List.map_cons,List.map_nil,List.getElem?_toArray,List.getElem?_cons_succ,List.getElem?_cons_zero,Option.getD_some];go_wp2_with fail
   refine (yB _ _).mono ?_;rintro e w8 ⟨rfl,hf8⟩;have X8:=(hf8.block _ (zA X5.out) fun h=>h).trans X5.out;have R9:=setRow_heap w8 (w.heap.size+1) _ (zS 0 (v) 0 0 0 0 0 (.slice none 0 0) (.slice none 0 0) (.slice none 0 0)) 31 (0,0) X8;have FN:=zz (zZ ((Fr.same w8).mono (S':=fun i=>i=w.heap.size+1) fun _ h=>h.elim) (g:=w.heap.size+1) (.inl rfl) (zS 0 (v) 0 0 0 0 0 (.slice none 0 0) (.slice none 0 0) (.slice none 0 0)));have F8:=zz hf8;clear hf8;go_wp2_with (refine zJ rfl _ _ rfl (w.heap.size+1) 0 (v) rfl rfl _ X8 rfl ?_)
   try simp only [Exit.inBlock,Exit.then]
   refine bodyPost_ret (results_cell_row rfl _ _ (w.heap.size+1) 31 _ (0,0) _ rfl R9 Tryz.underlying31 rfl (by kernel_rfl)) rfl ?_;exact ⟨0,_,c,rfl,(zX.same C5.out F8.out).out F5.out HC0.out (Nat.le_succ _) L5.out FN.out,rfl,AT.out,rfl⟩
end
end Go.Proofs.YtfdhofabgdkkkaaGreatDoor
