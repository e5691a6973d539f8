/- A part of the proof that what the machine is told keeps its bounds. -/
import Derived.Test.YtfdhofabgdkkkaaGreatDoorJ39
set_option maxHeartbeats 128000000
set_option maxRecDepth 100000
namespace Go.Proofs.YtfdhofabgdkkkaaGreatDoor
open Lib renaming hid→zz
open Go.RowKit Go.Fm Go.BigFrame Go.Shelf Go.Maps
set_option linter.unusedVariables false
set_option linter.unusedSimpArgs false
section
variable {w w':World} {S K:Nat→Prop}
theorem zYq {P:Program} {ops:Array Oper} {Q:Exit→Act→World→Prop} {S:World→Prop} {need:Nat→Bool} {fuel:Nat} {listed:Array Bool} {a:Act} {w:World} (i j k:Nat) {oi oj ok:Oper} (hi:ops[i]?=some oi) (hj:ops[j]?=some oj) (hk:ops[k]?=some ok) (hr:Region.ready .any ops listed=[i,j,k])
  (h1:wpList P ops (Exit.then (fun a' w'=>(need i=true→S w→S w')∧Lcl.wpG P ops Q S need fuel (listed.setIfInBounds i true) a' w') Q) [oi] a w)
  (h2:wpList P ops (Exit.then (fun a' w'=>(need j=true→S w→S w')∧Lcl.wpG P ops Q S need fuel (listed.setIfInBounds j true) a' w') Q) [oj] a w)
  (h3:wpList P ops (Exit.then (fun a' w'=>(need k=true→S w→S w')∧Lcl.wpG P ops Q S need fuel (listed.setIfInBounds k true) a' w') Q) [ok] a w):Lcl.wpG P ops Q S need (fuel+1) listed a w:=by
 refine Lcl.wpG_all [i,j,k] hr (by simp) fun n hn=>?_
 simp only [List.mem_cons,List.not_mem_nil,or_false] at hn;rcases hn with rfl | rfl | rfl
 ·exact .inr ⟨oi,hi,h1⟩
 ·exact .inr ⟨oj,hj,h2⟩
 ·exact .inr ⟨ok,hk,h3⟩
namespace Lcl
theorem region_alike4 {β γ δ ε:Type} {P:Program} {c:Code} {a:Act} {w:World} {Q:Exit→Act→World→Prop} (A:β→γ→δ→ε→Act) (F:β→γ→World→Prop) (hr:c.wp P (fun e a' w'=>e=.normal∧∃b x y z,a'=A b x y z∧F b x w') a w)
  (h:∀b x y z w',F b x w'→Q .normal (A b x y z) w'):c.wp P Q a w:=
 Code.wp_mono (fun e a' w' ⟨h1,b,x,y,z,h2,h3⟩=>by subst h1; subst h2; exact h b x y z w' h3) hr
theorem region_alike5 {P:Program} {c:Code} {a:Act} {w:World} {Q:Exit→Act→World→Prop} (A:Nat→Int→Int→Int→Int→Act) (F:Nat→Int→Int→Int→Int→World→Prop) (hr:c.wp P (fun e a' w'=>e=.normal∧∃b x y z u,a'=A b x y z u∧F b x y z u w') a w)
  (h:∀b x y z u w',F b x y z u w'→Q .normal (A b x y z u) w'):c.wp P Q a w:=
 Code.wp_mono (fun e a' w' ⟨h1,b,x,y,z,u,h2,h3⟩=>by subst h1; subst h2; exact h b x y z u w' h3) hr
end Lcl
section
variable {ops:Array Oper} {rest:List Oper} {o:Oper} {a:Act} {Q:Exit→Act→World→Prop}
theorem yJ (hgd:o.guard=none) (x y:Operand) (ho:o.op=.store 31 x y) (g:Nat) (e c st en m1 g1 l1:Int) (bv tv pv:Value) (h1:bv.oneCell'=true) (h2:tv.oneCell'=true) (h3:pv.oneCell'=true) (hx:a.eval x=.pointer (some ⟨g,0,none⟩)) (hy:a.eval y=.agg (zS e c st en m1 g1 l1 bv tv pv))
  (old:Array Value) (hg:w.heap[g]?=some (.cells old 31 (0,0))) (hold:old.size=10)
  (h:wpList Tryz.prog ops Q rest (a.put o.dst undef) (w.setRow g (zS e c st en m1 g1 l1 bv tv pv))):wpList Tryz.prog ops Q (o::rest) a w:=
 wpList_store_row hgd 31 x y ho g (zS e c st en m1 g1 l1 bv tv pv) hx hy 31 old hg (by kernel_rfl) hold (zGt _ _ _ _ _ _ _ h1 h2 h3) h
end
theorem zX.put {c c':zO} {N:Nat} {w9:World} {b:Nat} (h:zX c N w w' c') (hf:Fr (fun i=>i=b) w' w9) (hb:¬c'.T b) (hw:w.heap.size≤b):zX c N w w9 c':=
 ⟨h.1.fr hf fun i hi e=>hb (by rw [←e]; exact hi),h.2.1,h.2.2.1,h.2.2.2.trans hf fun i e=>.inr (by rw [e]; exact hw)⟩
theorem xd.Tlow {c:zO} {N:Nat} (h:xd w c N) {i:Nat} (hi:c.T i):i < w.heap.size:=by
 rcases hi with hi | ⟨x,hx,hi⟩
 ·exact (h.low.1 i hi).2
 ·exact (h.low.2 x hx i hi).2
def SyncC (c:zO) (k:ByteArray) (m gen now:Int) (rnd:Bool) (tops:List (ByteArray × Int)) (er:Int) (pl:List (ByteArray × Int)) (c':zO):Prop:=(yD c.G k=none∧er=11∧c'=c∧pl=[])∨∃d d',yD c.G k=some d∧c'= { c with G:=zAf c.G k d' } ∧zHl d.F m gen now rnd tops er d'.F pl
def Mid9 (c:zO) (N:Nat) (w:World) (R:Int→List (ByteArray × Int)→zO→Prop) (rv:Value) (er:Int) (w':World):Prop:=w'.heap[w.heap.size+1]?=some (.cells yE 31 (0,0))∧∃(pl:List (ByteArray × Int)) (c':zO),xL (fun b=>w.heap.size+2 < b) w' rv pl∧zX c N w w' c'∧¬c'.T (w.heap.size+1)∧R er pl c'
def Mid8 (c:zO) (N:Nat) (w:World) (R:Int→Int→Int→Int→zO→Prop) (b:Nat) (x y z er:Int) (w':World):Prop:=w'.heap[b]?=some (.cells #[.int .i64 x,.int .i64 y,.int .i64 z] 171 (0,0))∧w'.heap[w.heap.size+1]?=some (.cells yE 31 (0,0))∧∃c':zO,zX c N w w' c'∧¬c'.T (w.heap.size+1)∧R x y z er c'
def Out9 (c:zO) (N:Nat) (w:World) (R:Int→List (ByteArray × Int)→zO→Prop) (e:Ending) (w':World):Prop:=∃(er:Int) (rv:Value) (pl:List (ByteArray × Int)) (c':zO),e=.returned (.agg (zS er 0 0 0 0 0 0 (.slice none 0 0) (.slice none 0 0) rv))∧xL (fun b=>w.heap.size≤b) w' rv pl∧zX c N w w' c'∧R er pl c'
def Out8 (c:zO) (N:Nat) (w:World) (R:Int→Int→Int→Int→zO→Prop) (e:Ending) (w':World):Prop:=∃(er x y z:Int) (c':zO),e=.returned (.agg (zS er 0 0 0 x y z (.slice none 0 0) (.slice none 0 0) (.slice none 0 0)))∧zX c N w w' c'∧R x y z er c'
theorem zSc {m:zG} (hM:zW w m) {c:zO} {N:Nat} (hC:xd w c N) (hcv:m.cv=.pointer (some ⟨c.cb,0,none⟩)) (hN:N≤900000) (q:Req) (rv kv tv:Value) (hk:q.kind=9) (htl:m.TL.length≤20) (htz:∀r∈m.TL,r.1.size≤100) (hg:q.group.size≤maxLen) (hm:-1≤q.member∧q.member≤2199023255552) (now:Int):
  Calls Tryz.prog 41 #[.pointer (some ⟨m.mb,0,none⟩),.agg (zT q rv kv tv),.int .i64 now] w (Out9 c N w (fun er pl c'=>SyncC c q.group q.member q.gen now q.flag (ud m.TL) er pl c')):=by
 obtain ⟨w1,hw1,f1,x0,x1,x2⟩:=zKp w q rv kv tv;have F1:=zz f1;have X1:=zz x1;have X2:=zz x2;have HM:=zz (hM.old f1);have HC:=zz (hC.old f1);have HC0:=zz hC;have L2:=zz (zA x2);unfold zT at x0 hw1 ⊢;unfold yE at hw1;rw [hk] at x0 hw1 ⊢;have d0:=fun j=>zB x0 j
 have D1:=zz (fun j=>zB x0 j);have X0:=zz x0;rw [hw1] at d0;have dcv:=(zB HM.out.b 1).trans (show _=some m.cv from rfl);rw [hcv] at dcv;clear hM hC f1 x0 x1 x2;go_enter Tryz.func41,Tryz.ntmps41
 go_wp2_with fail
 rw [←hw1];clear d0 hw1;apply Lcl.region_alike4 (F:=Mid9 c N w (fun er pl c'=>SyncC c q.group q.member q.gen now q.flag (ud m.TL) er pl c'))
 case hr=>
  have ycv:∀y:Lcl.InS (fun w'=>Fr (fun _=>False) w1 w'),y.w.cell? ⟨m.mb,1,none⟩=some (.pointer (some ⟨c.cb,0,none⟩)):=fun y=>y.h.cel dcv
  have ytb:∀y:Lcl.InS (fun w'=>Fr (fun _=>False) w1 w'),y.w.cell? ⟨m.mb,0,none⟩=some (.pointer (some ⟨m.tb,0,none⟩)):=fun y=>y.h.cel ((zB HM.out.b 0).trans rfl)
  have y16:∀y:Lcl.InS (fun w'=>Fr (fun _=>False) w1 w'),y.w.cell? ⟨w.heap.size,16,none⟩=some (.string q.group):=fun y=>y.h.cel ((zB X0.out 16).trans rfl)
  have y17:∀y:Lcl.InS (fun w'=>Fr (fun _=>False) w1 w'),y.w.cell? ⟨w.heap.size,17,none⟩=some (.int .i64 q.member):=fun y=>y.h.cel ((zB X0.out 17).trans rfl)
  have y18:∀y:Lcl.InS (fun w'=>Fr (fun _=>False) w1 w'),y.w.cell? ⟨w.heap.size,18,none⟩=some (.int .i64 q.gen):=fun y=>y.h.cel ((zB X0.out 18).trans rfl)
  have y5:∀y:Lcl.InS (fun w'=>Fr (fun _=>False) w1 w'),y.w.cell? ⟨w.heap.size,5,none⟩=some (.bool q.flag):=fun y=>y.h.cel ((zB X0.out 5).trans rfl)
  have FD:=zz (Fr.same w1).drew;refine Lcl.wp_region_calm (by kernel_rfl) [(true,[0,1,2,4,6,8,10,11,12,15,17]),(false,[3,5,7,9,13,16])] #[0,1,3,7,0,16,0,64,0,256,0,1024,3072,7168,15360,0,32768,0,262143,524287,1048575,1048575,2097151,8388607] [0,1,2,3,4,5,6,7,8,9,10,11,12,13,14,15,16,17] 7 #[true,true,true,true,true,true,true,true,true,true,true,true,true,true,false,true,true,true,false,false,false,false,false,false] (by kernel_rfl) (by kernel_rfl) (by kernel_rfl) (fun w'=>Fr (fun _=>False) w1 w') (Fr.same w1).drew (fun d c a v w h=>by cases h.1) ?_;simp only [Lcl.opsOf,List.map_cons,List.map_nil,List.getElem?_toArray,List.getElem?_cons_succ,List.getElem?_cons_zero,Option.getD_some];refine Lcl.wpCalm_t ?_
  repeat (go_big_quiet_step (rfl))
  refine wpQuiet_nil ?_;refine Lcl.wpCalm_f ?_
  repeat (go_big_quiet_step (rfl))
  refine wpQuiet_nil ?_;refine Lcl.wpCalm_nil ?_;clear ycv y16 y17 y18 y5 ytb;have X3:=zz ((FD.out.block _ (zA X1.out) fun h=>h).trans X1.out);have CD:=zz (HC.out.old FD.out);have FD1:=zz (F1.out.tr FD.out);have MD:=zz (HM.out.old FD.out);have LD:=zz (Nat.lt_of_lt_of_le L2.out FD.out.size);have LR:=zz (zA X3.out);generalize w1.drew=wd at *;have TW:=zz (zHy MD.out.top (by omega));refine Lcl.wpG_one 14 rfl (by kernel_rfl) ?_;go_wp2_with fail
  refine TW.out.mono ?_;rintro e w5 ⟨v,rfl,ho,f5⟩;obtain ⟨ov,cv,hvv,-,-⟩:=ze ho;subst hvv;have OW:=zz ho;have F5:=zz f5;have F5c:=zz (FD.out.tr f5);have C5:=zz (CD.out.old f5);have X5:=zz ((f5.block _ (zA X3.out) fun h=>h).trans X3.out);clear ho f5 TW;go_wp2_with fail
  refine ⟨fun _ _=>F5c.out,?_⟩;have SW:=zz (zRw C5.out hN q.group hg q.member q.gen now hm (ud m.TL) (.slice ov (ud m.TL).length cv) (fun w9 h9=>zPi (zl OW.out fun j hj=>h9.block j (zK OW.out hj).2 fun h=>by
   have:=CD.out.Tlow h
   have:=(zK OW.out hj).1
   omega)) (by rw [zKn]; omega) (fun t ht=>by
   unfold ud at ht;obtain ⟨n,hn,rfl⟩:=List.mem_map.1 ht;obtain ⟨r,hr,rfl⟩:=List.mem_map.1 ((kQ _).mem_iff.1 hn)
   have:=htz r hr
   show r.1.size≤150000000000000
   omega) q.flag)
  refine Lcl.wpG_one 18 rfl (by kernel_rfl) ?_;go_wp2_with fail
  refine SW.out.mono ?_;rintro e w6 ⟨rv,er,c',pl,rfl,hrv,hst,hr⟩;have FIN:=zz (show Mid9 c N w (fun er pl c'=>SyncC c q.group q.member q.gen now q.flag (ud m.TL) er pl c') rv er w6 from by
   have hl5:=F5.out.size;have hlr:=LR.out;have hld:=LD.out;refine ⟨(hst.2.2.2.block _ (zA X5.out) fun h=>?_).trans X5.out,pl,c',hrv.mono fun b hb _=>by omega,hst.late (FD1.out.tr F5.out),fun h=>?_,hr⟩
   ·have:=HC0.out.Tlow h; omega
   ·rcases hst.2.2.1 _ h with h | h
    ·have:=HC0.out.Tlow h; omega
    ·omega)
  obtain ⟨orv,crv,hrvv,-⟩:=id hrv;subst hrvv;obtain ⟨rvv,hrvv⟩:∃rvv,rvv=Value.slice orv pl.length crv:=⟨_,rfl⟩;rw [←hrvv] at FIN ⊢;clear hrv hst hr SW hrvv;go_wp2_with fail
  refine ⟨fun h=>absurd h (by decide),?_⟩;refine Lcl.wpG_one 19 rfl (by kernel_rfl) ?_;go_wp2_with fail
  refine ⟨fun h=>absurd h (by decide),?_⟩;refine Lcl.wpG_two 20 21 rfl rfl (by kernel_rfl) ?_ ?_
  ·go_wp2_with fail
   refine ⟨fun h=>absurd h (by decide),?_⟩;refine Lcl.wpG_two 21 22 rfl rfl (by kernel_rfl) ?_ ?_
   ·go_wp2_with fail
    refine ⟨fun h=>absurd h (by decide),?_⟩;refine Lcl.wpG_run [22,23] _ _ _ (by kernel_rfl) ?_;simp only [List.map_cons,List.map_nil,List.getElem?_toArray,List.getElem?_cons_succ,List.getElem?_cons_zero,Option.getD_some];go_wp2_with fail
    exact ⟨rvv,er,⟨ov,cv,rfl⟩,FIN.out⟩
   ·go_wp2_with fail
    refine ⟨fun h=>absurd h (by decide),?_⟩;refine Lcl.wpG_run [21,23] _ _ _ (by kernel_rfl) ?_;simp only [List.map_cons,List.map_nil,List.getElem?_toArray,List.getElem?_cons_succ,List.getElem?_cons_zero,Option.getD_some];go_wp2_with fail
    first | exact ⟨rvv,er,⟨ov,cv,rfl⟩,FIN.out⟩ | exact FIN.out | exact ⟨rvv,er,⟨rfl,rfl,rfl,rfl⟩,FIN.out⟩ | exact ⟨rvv,er,(by simp),FIN.out⟩
  ·go_wp2_with fail
   refine ⟨fun h=>absurd h (by decide),?_⟩;refine Lcl.wpG_run [20,22,23] _ _ _ (by kernel_rfl) ?_;simp only [List.map_cons,List.map_nil,List.getElem?_toArray,List.getElem?_cons_succ,List.getElem?_cons_zero,Option.getD_some];go_wp2_with fail
   first | exact ⟨rvv,er,⟨ov,cv,rfl⟩,FIN.out⟩ | exact FIN.out | exact ⟨rvv,er,⟨rfl,rfl,rfl,rfl⟩,FIN.out⟩ | exact ⟨rvv,er,(by simp),FIN.out⟩
 rintro rv er ov4 cv4 w6 ⟨hx6,pl,c',hrv,hst,hnr,hr⟩;obtain ⟨orv,crv,hrvv,-⟩:=id hrv;subst hrvv;have X6:=zz hx6;have RV:=zz hrv;have ST:=zz hst;have NR:=zz hnr;have HR:=zz hr;have R9:=setRow_heap w6 (w.heap.size+1) _ (zS er 0 0 0 0 0 0 (.slice none 0 0) (.slice none 0 0) (.slice orv pl.length crv)) 31 (0,0) hx6;have FN:=zz (zZ ((Fr.same w6).mono (S':=fun i=>i=w.heap.size+1) fun _ h=>h.elim) (g:=w.heap.size+1) (.inl rfl) (zS er 0 0 0 0 0 0 (.slice none 0 0) (.slice none 0 0) (.slice orv pl.length crv)));clear hx6 hrv hst hnr hr dcv;go_wp2_with (refine yJ rfl _ _ rfl (w.heap.size+1) er 0 0 0 0 0 0 (.slice none 0 0) (.slice none 0 0) (.slice orv pl.length crv) rfl rfl rfl rfl rfl _ X6.out rfl ?_)
 try simp only [Exit.inBlock,Exit.then]
 refine bodyPost_ret (results_cell_row rfl _ _ (w.heap.size+1) 31 _ (0,0) _ rfl R9 Tryz.underlying31 rfl (by kernel_rfl)) rfl ?_;exact ⟨er,_,pl,c',rfl,(RV.out.fr FN.out fun i hi e=>by omega).mono fun b hb _=>by omega,ST.out.put FN.out NR.out (Nat.le_succ _),HR.out⟩
end
section
variable {w w':World} {S K:Nat→Prop}
theorem zSd {m:zG} (hM:zW w m) {c:zO} {N:Nat} (hC:xd w c N) (hcv:m.cv=.pointer (some ⟨c.cb,0,none⟩)) (hN:N≤900000) (q:Req) (rv kv tv:Value) (hk:q.kind=8) (hgs:q.group.size≤100) (tl:List ByteArray) (htl:xS K w tv tl) (hk2:∀i,K i→i < w.heap.size∧¬c.T i) (hl:tl.length≤1000) (hg:q.group.size≤maxLen) (hm:-1≤q.member∧q.member≤2199023255552) (now:Int):
  Calls Tryz.prog 41 #[.pointer (some ⟨m.mb,0,none⟩),.agg (zT q rv kv tv),.int .i64 now] w (Out8 c N w (fun x y z er c'=>JoinC c q.group q.member tl now x y z er c')):=by
 obtain ⟨to,tcp,rfl,-⟩:=id htl;obtain ⟨w1,hw1,f1,x0,x1,x2⟩:=zKp w q rv kv (.slice to tl.length tcp);have F1:=zz f1;have X1:=zz x1;have X2:=zz x2;have HM:=zz (hM.old f1);have HC:=zz (hC.old f1);have HC0:=zz hC;have L2:=zz (zA x2);unfold zT at x0 hw1 ⊢;unfold yE at hw1;rw [hk] at x0 hw1 ⊢;have d0:=fun j=>zB x0 j
 have D1:=zz (fun j=>zB x0 j);have X0:=zz x0;rw [hw1] at d0;have dcv:=(zB HM.out.b 1).trans (show _=some m.cv from rfl);rw [hcv] at dcv;have HTL:=zz (htl.old f1);have HK2:=zz hk2;clear htl hk2;clear hM hC f1 x0 x1 x2;go_enter Tryz.func41,Tryz.ntmps41
 go_wp2_with fail
 rw [←hw1];clear d0 hw1;apply Lcl.region_alike5 (F:=Mid8 c N w (fun x y z er c'=>JoinC c q.group q.member tl now x y z er c'))
 case hr=>
  have ycv:∀y:Lcl.InS (fun w'=>Fr (fun _=>False) w1 w'),y.w.cell? ⟨m.mb,1,none⟩=some (.pointer (some ⟨c.cb,0,none⟩)):=fun y=>y.h.cel dcv
  have y16:∀y:Lcl.InS (fun w'=>Fr (fun _=>False) w1 w'),y.w.cell? ⟨w.heap.size,16,none⟩=some (.string q.group):=fun y=>y.h.cel ((zB X0.out 16).trans rfl)
  have y17:∀y:Lcl.InS (fun w'=>Fr (fun _=>False) w1 w'),y.w.cell? ⟨w.heap.size,17,none⟩=some (.int .i64 q.member):=fun y=>y.h.cel ((zB X0.out 17).trans rfl)
  have y19:∀y:Lcl.InS (fun w'=>Fr (fun _=>False) w1 w'),y.w.cell? ⟨w.heap.size,19,none⟩=some (.slice to tl.length tcp):=fun y=>y.h.cel ((zB X0.out 19).trans rfl)
  have FD:=zz (Fr.same w1).drew;refine Lcl.wp_region_calm (by kernel_rfl) [(true,[0,1,2,4,6,8,10]),(false,[3,5,7,9])] #[0,1,3,7,0,16,0,64,0,256,0,2047,4095,8191,8191,0,49151,131071] [0,1,2,3,4,5,6,7,8,9,10,15] 7 #[true,true,true,true,true,true,true,true,true,true,true,false,false,false,false,false,false,false] (by kernel_rfl) (by kernel_rfl) (by kernel_rfl) (fun w'=>Fr (fun _=>False) w1 w') (Fr.same w1).drew (fun d c a v w h=>by cases h.1) ?_;simp only [Lcl.opsOf,List.map_cons,List.map_nil,List.getElem?_toArray,List.getElem?_cons_succ,List.getElem?_cons_zero,Option.getD_some];refine Lcl.wpCalm_t ?_
  repeat (go_big_quiet_step (rfl))
  refine wpQuiet_nil ?_;refine Lcl.wpCalm_f ?_
  repeat (go_big_quiet_step (rfl))
  refine wpQuiet_nil ?_;refine Lcl.wpCalm_nil ?_;clear ycv y16 y17 y19;have X3:=zz ((FD.out.block _ (zA X1.out) fun h=>h).trans X1.out);have CD:=zz (HC.out.old FD.out);have FD1:=zz (F1.out.tr FD.out);have MD:=zz (HM.out.old FD.out);have LD:=zz (Nat.lt_of_lt_of_le L2.out FD.out.size);have LR:=zz (zA X3.out);have XR:=X3;generalize w1.drew=wd at *;have JC:=zz (fun w' (hf:Fr (fun _=>False) wd w')=>zRz (CD.out.old hf) hN q.group hgs q.member now hm tl (.slice to tl.length tcp) ((HTL.out.old FD.out).old hf) (fun i hi=>⟨Nat.lt_of_lt_of_le (HK2.out i hi).1 ((FD1.out.tr hf).size),(HK2.out i hi).2⟩) hl);refine Lcl.wpG_two 11 15 rfl rfl (by kernel_rfl) ?_ ?_
  ·go_wp2_with fail
   refine (JC.out _ (Fr.same _)).mono ?_;rintro e w5 ⟨x,y,z,er,c',rfl,hst,hr⟩;have L5:=zz (show wd.heap.size≤w5.heap.size from hst.2.2.2.size);have ST:=zz (hst.late FD1.out);have NR:=zz (show ¬c'.T (w.heap.size+1) from fun h=>by
    rcases hst.2.2.1 _ h with h | h
    ·have:=HC0.out.Tlow h; omega
    ·have:=LR.out; omega)
   have XR:=zz ((hst.2.2.2.block _ (zA XR.out) fun h=>by have:=HC0.out.Tlow h; omega).trans XR.out);have HR:=zz hr;clear hst hr;go_wp2_with fail
   refine ⟨fun h=>absurd h (by decide),?_⟩;refine Lcl.wpG_two 12 15 rfl rfl (by kernel_rfl) ?_ ?_
   ·go_wp2_with fail
    refine ⟨fun h=>absurd h (by decide),?_⟩;refine zYq 13 14 15 rfl rfl rfl (by kernel_rfl) ?_ ?_ ?_
    ·go_wp2_with fail
     refine ⟨fun h=>absurd h (by decide),?_⟩;refine Lcl.wpG_two 14 15 rfl rfl (by kernel_rfl) ?_ ?_
     ·go_wp2_with fail
      refine ⟨fun h=>absurd h (by decide),?_⟩;refine Lcl.wpG_one 15 rfl (by kernel_rfl) ?_;have xa:=zC w5 (.cells #[.int .i64 0,.int .i64 0,.int .i64 0] 171);have fa:=(Fr.same w5).alloc (.cells #[.int .i64 0,.int .i64 0,.int .i64 0] 171);go_wp2_with fail
      refine ⟨fun _ h=>h.alloc _,?_⟩;have FA:=zz fa;have XB:=zz xa;have XR:=zz ((fa.block _ (zA XR.out) fun h=>h).trans XR.out);have NB:=zz (show ¬c'.T w5.heap.size from fun h=>by have:=ST.out.1.Tlow h; omega);have LB:=L5;have ST:=zz (ST.out.more fa);clear xa fa;generalize w5.alloc (.cells #[.int .i64 0,.int .i64 0,.int .i64 0] 171)=wb at *;generalize w5.heap.size=bx at *;refine Lcl.wpG_one 16 rfl (by kernel_rfl) ?_;have R9:=setRow_heap _ bx _ #[.int .i64 x,.int .i64 y,.int .i64 z] 171 (0,0) XB.out;have FS:=zz (zZ ((Fr.same wb).mono (S':=fun i=>i=bx) fun _ h=>h.elim) (g:=bx) (.inl rfl) #[.int .i64 x,.int .i64 y,.int .i64 z]);go_wp2_with (refine zQ rfl _ _ rfl bx x y z rfl rfl _ XB.out rfl ?_)
      refine ⟨fun h=>absurd h (by decide),?_⟩;have XB:=zz R9;have XR:=zz ((FS.out.block _ (zA XR.out) (fun e=>by have:=LB.out; have:=LR.out; omega)).trans XR.out);have ST:=zz (ST.out.put FS.out NB.out (by have:=LB.out; have:=FD1.out.size; omega));clear R9 FS;refine Lcl.wpG_run [17] _ _ _ (by kernel_rfl) ?_;simp only [List.map_cons,List.map_nil,List.getElem?_toArray,List.getElem?_cons_succ,List.getElem?_cons_zero,Option.getD_some];go_wp2_with fail
      exact ⟨bx,x,y,z,er,rfl,⟨XB.out,XR.out,c',ST.out,NR.out,HR.out⟩⟩
     ·have xa:=zC w5 (.cells #[.int .i64 0,.int .i64 0,.int .i64 0] 171)
      have fa:=(Fr.same w5).alloc (.cells #[.int .i64 0,.int .i64 0,.int .i64 0] 171);go_wp2_with fail
      refine ⟨fun _ h=>h.alloc _,?_⟩;have FA:=zz fa;have XB:=zz xa;have XR:=zz ((fa.block _ (zA XR.out) fun h=>h).trans XR.out);have NB:=zz (show ¬c'.T w5.heap.size from fun h=>by have:=ST.out.1.Tlow h; omega);have LB:=L5;have ST:=zz (ST.out.more fa);clear xa fa;generalize w5.alloc (.cells #[.int .i64 0,.int .i64 0,.int .i64 0] 171)=wb at *;generalize w5.heap.size=bx at *;refine Lcl.wpG_two 14 16 rfl rfl (by kernel_rfl) ?_ ?_
      ·go_wp2_with fail
       refine ⟨fun h=>absurd h (by decide),?_⟩;refine Lcl.wpG_one 16 rfl (by kernel_rfl) ?_;have R9:=setRow_heap _ bx _ #[.int .i64 x,.int .i64 y,.int .i64 z] 171 (0,0) XB.out;have FS:=zz (zZ ((Fr.same wb).mono (S':=fun i=>i=bx) fun _ h=>h.elim) (g:=bx) (.inl rfl) #[.int .i64 x,.int .i64 y,.int .i64 z]);go_wp2_with (refine zQ rfl _ _ rfl bx x y z rfl rfl _ XB.out rfl ?_)
       refine ⟨fun h=>absurd h (by decide),?_⟩;have XB:=zz R9;have XR:=zz ((FS.out.block _ (zA XR.out) (fun e=>by have:=LB.out; have:=LR.out; omega)).trans XR.out);have ST:=zz (ST.out.put FS.out NB.out (by have:=LB.out; have:=FD1.out.size; omega));clear R9 FS;refine Lcl.wpG_run [17] _ _ _ (by kernel_rfl) ?_;simp only [List.map_cons,List.map_nil,List.getElem?_toArray,List.getElem?_cons_succ,List.getElem?_cons_zero,Option.getD_some];go_wp2_with fail
       first | exact ⟨bx,x,y,z,er,rfl,⟨XB.out,XR.out,c',ST.out,NR.out,HR.out⟩⟩ | exact ⟨XB.out,XR.out,c',ST.out,NR.out,HR.out⟩ | exact ⟨bx,x,y,z,er,(by simp),⟨XB.out,XR.out,c',ST.out,NR.out,HR.out⟩⟩
      ·have R9:=setRow_heap _ bx _ #[.int .i64 x,.int .i64 y,.int .i64 z] 171 (0,0) XB.out
       have FS:=zz (zZ ((Fr.same wb).mono (S':=fun i=>i=bx) fun _ h=>h.elim) (g:=bx) (.inl rfl) #[.int .i64 x,.int .i64 y,.int .i64 z]);go_wp2_with (refine zQ rfl _ _ rfl bx x y z rfl rfl _ XB.out rfl ?_)
       refine ⟨fun h=>absurd h (by decide),?_⟩;have XB:=zz R9;have XR:=zz ((FS.out.block _ (zA XR.out) (fun e=>by have:=LB.out; have:=LR.out; omega)).trans XR.out);have ST:=zz (ST.out.put FS.out NB.out (by have:=LB.out; have:=FD1.out.size; omega));clear R9 FS;refine Lcl.wpG_one 14 rfl (by kernel_rfl) ?_;go_wp2_with fail
       refine ⟨fun h=>absurd h (by decide),?_⟩;refine Lcl.wpG_run [17] _ _ _ (by kernel_rfl) ?_;simp only [List.map_cons,List.map_nil,List.getElem?_toArray,List.getElem?_cons_succ,List.getElem?_cons_zero,Option.getD_some];go_wp2_with fail
       first | exact ⟨bx,x,y,z,er,rfl,⟨XB.out,XR.out,c',ST.out,NR.out,HR.out⟩⟩ | exact ⟨XB.out,XR.out,c',ST.out,NR.out,HR.out⟩ | exact ⟨bx,x,y,z,er,(by simp),⟨XB.out,XR.out,c',ST.out,NR.out,HR.out⟩⟩
    ·go_wp2_with fail
     refine ⟨fun h=>absurd h (by decide),?_⟩;refine Lcl.wpG_two 13 15 rfl rfl (by kernel_rfl) ?_ ?_
     ·go_wp2_with fail
      refine ⟨fun h=>absurd h (by decide),?_⟩;refine Lcl.wpG_one 15 rfl (by kernel_rfl) ?_;have xa:=zC w5 (.cells #[.int .i64 0,.int .i64 0,.int .i64 0] 171);have fa:=(Fr.same w5).alloc (.cells #[.int .i64 0,.int .i64 0,.int .i64 0] 171);go_wp2_with fail
      refine ⟨fun _ h=>h.alloc _,?_⟩;have FA:=zz fa;have XB:=zz xa;have XR:=zz ((fa.block _ (zA XR.out) fun h=>h).trans XR.out);have NB:=zz (show ¬c'.T w5.heap.size from fun h=>by have:=ST.out.1.Tlow h; omega);have LB:=L5;have ST:=zz (ST.out.more fa);clear xa fa;generalize w5.alloc (.cells #[.int .i64 0,.int .i64 0,.int .i64 0] 171)=wb at *;generalize w5.heap.size=bx at *;refine Lcl.wpG_one 16 rfl (by kernel_rfl) ?_;have R9:=setRow_heap _ bx _ #[.int .i64 x,.int .i64 y,.int .i64 z] 171 (0,0) XB.out;have FS:=zz (zZ ((Fr.same wb).mono (S':=fun i=>i=bx) fun _ h=>h.elim) (g:=bx) (.inl rfl) #[.int .i64 x,.int .i64 y,.int .i64 z]);go_wp2_with (refine zQ rfl _ _ rfl bx x y z rfl rfl _ XB.out rfl ?_)
      refine ⟨fun h=>absurd h (by decide),?_⟩;have XB:=zz R9;have XR:=zz ((FS.out.block _ (zA XR.out) (fun e=>by have:=LB.out; have:=LR.out; omega)).trans XR.out);have ST:=zz (ST.out.put FS.out NB.out (by have:=LB.out; have:=FD1.out.size; omega));clear R9 FS;refine Lcl.wpG_run [17] _ _ _ (by kernel_rfl) ?_;simp only [List.map_cons,List.map_nil,List.getElem?_toArray,List.getElem?_cons_succ,List.getElem?_cons_zero,Option.getD_some];go_wp2_with fail
      first | exact ⟨bx,x,y,z,er,rfl,⟨XB.out,XR.out,c',ST.out,NR.out,HR.out⟩⟩ | exact ⟨XB.out,XR.out,c',ST.out,NR.out,HR.out⟩ | exact ⟨bx,x,y,z,er,(by simp),⟨XB.out,XR.out,c',ST.out,NR.out,HR.out⟩⟩
     ·have xa:=zC w5 (.cells #[.int .i64 0,.int .i64 0,.int .i64 0] 171)
      have fa:=(Fr.same w5).alloc (.cells #[.int .i64 0,.int .i64 0,.int .i64 0] 171);go_wp2_with fail
      refine ⟨fun _ h=>h.alloc _,?_⟩;have FA:=zz fa;have XB:=zz xa;have XR:=zz ((fa.block _ (zA XR.out) fun h=>h).trans XR.out);have NB:=zz (show ¬c'.T w5.heap.size from fun h=>by have:=ST.out.1.Tlow h; omega);have LB:=L5;have ST:=zz (ST.out.more fa);clear xa fa;generalize w5.alloc (.cells #[.int .i64 0,.int .i64 0,.int .i64 0] 171)=wb at *;generalize w5.heap.size=bx at *;refine Lcl.wpG_one 13 rfl (by kernel_rfl) ?_;go_wp2_with fail
      refine ⟨fun h=>absurd h (by decide),?_⟩;refine Lcl.wpG_one 16 rfl (by kernel_rfl) ?_;have R9:=setRow_heap _ bx _ #[.int .i64 x,.int .i64 y,.int .i64 z] 171 (0,0) XB.out;have FS:=zz (zZ ((Fr.same wb).mono (S':=fun i=>i=bx) fun _ h=>h.elim) (g:=bx) (.inl rfl) #[.int .i64 x,.int .i64 y,.int .i64 z]);go_wp2_with (refine zQ rfl _ _ rfl bx x y z rfl rfl _ XB.out rfl ?_)
      refine ⟨fun h=>absurd h (by decide),?_⟩;have XB:=zz R9;have XR:=zz ((FS.out.block _ (zA XR.out) (fun e=>by have:=LB.out; have:=LR.out; omega)).trans XR.out);have ST:=zz (ST.out.put FS.out NB.out (by have:=LB.out; have:=FD1.out.size; omega));clear R9 FS;refine Lcl.wpG_run [17] _ _ _ (by kernel_rfl) ?_;simp only [List.map_cons,List.map_nil,List.getElem?_toArray,List.getElem?_cons_succ,List.getElem?_cons_zero,Option.getD_some];go_wp2_with fail
      first | exact ⟨bx,x,y,z,er,rfl,⟨XB.out,XR.out,c',ST.out,NR.out,HR.out⟩⟩ | exact ⟨XB.out,XR.out,c',ST.out,NR.out,HR.out⟩ | exact ⟨bx,x,y,z,er,(by simp),⟨XB.out,XR.out,c',ST.out,NR.out,HR.out⟩⟩
    ·have xa:=zC w5 (.cells #[.int .i64 0,.int .i64 0,.int .i64 0] 171)
     have fa:=(Fr.same w5).alloc (.cells #[.int .i64 0,.int .i64 0,.int .i64 0] 171);go_wp2_with fail
     refine ⟨fun _ h=>h.alloc _,?_⟩;have FA:=zz fa;have XB:=zz xa;have XR:=zz ((fa.block _ (zA XR.out) fun h=>h).trans XR.out);have NB:=zz (show ¬c'.T w5.heap.size from fun h=>by have:=ST.out.1.Tlow h; omega);have LB:=L5;have ST:=zz (ST.out.more fa);clear xa fa;generalize w5.alloc (.cells #[.int .i64 0,.int .i64 0,.int .i64 0] 171)=wb at *;generalize w5.heap.size=bx at *;refine Lcl.wpG_two 13 14 rfl rfl (by kernel_rfl) ?_ ?_
     ·go_wp2_with fail
      refine ⟨fun h=>absurd h (by decide),?_⟩;refine Lcl.wpG_two 14 16 rfl rfl (by kernel_rfl) ?_ ?_
      ·go_wp2_with fail
       refine ⟨fun h=>absurd h (by decide),?_⟩;refine Lcl.wpG_one 16 rfl (by kernel_rfl) ?_;have R9:=setRow_heap _ bx _ #[.int .i64 x,.int .i64 y,.int .i64 z] 171 (0,0) XB.out;have FS:=zz (zZ ((Fr.same wb).mono (S':=fun i=>i=bx) fun _ h=>h.elim) (g:=bx) (.inl rfl) #[.int .i64 x,.int .i64 y,.int .i64 z]);go_wp2_with (refine zQ rfl _ _ rfl bx x y z rfl rfl _ XB.out rfl ?_)
       refine ⟨fun h=>absurd h (by decide),?_⟩;have XB:=zz R9;have XR:=zz ((FS.out.block _ (zA XR.out) (fun e=>by have:=LB.out; have:=LR.out; omega)).trans XR.out);have ST:=zz (ST.out.put FS.out NB.out (by have:=LB.out; have:=FD1.out.size; omega));clear R9 FS;refine Lcl.wpG_run [17] _ _ _ (by kernel_rfl) ?_;simp only [List.map_cons,List.map_nil,List.getElem?_toArray,List.getElem?_cons_succ,List.getElem?_cons_zero,Option.getD_some];go_wp2_with fail
       first | exact ⟨bx,x,y,z,er,rfl,⟨XB.out,XR.out,c',ST.out,NR.out,HR.out⟩⟩ | exact ⟨XB.out,XR.out,c',ST.out,NR.out,HR.out⟩ | exact ⟨bx,x,y,z,er,(by simp),⟨XB.out,XR.out,c',ST.out,NR.out,HR.out⟩⟩
      ·have R9:=setRow_heap _ bx _ #[.int .i64 x,.int .i64 y,.int .i64 z] 171 (0,0) XB.out
       have FS:=zz (zZ ((Fr.same wb).mono (S':=fun i=>i=bx) fun _ h=>h.elim) (g:=bx) (.inl rfl) #[.int .i64 x,.int .i64 y,.int .i64 z]);go_wp2_with (refine zQ rfl _ _ rfl bx x y z rfl rfl _ XB.out rfl ?_)
       refine ⟨fun h=>absurd h (by decide),?_⟩;have XB:=zz R9;have XR:=zz ((FS.out.block _ (zA XR.out) (fun e=>by have:=LB.out; have:=LR.out; omega)).trans XR.out);have ST:=zz (ST.out.put FS.out NB.out (by have:=LB.out; have:=FD1.out.size; omega));clear R9 FS;refine Lcl.wpG_one 14 rfl (by kernel_rfl) ?_;go_wp2_with fail
       refine ⟨fun h=>absurd h (by decide),?_⟩;refine Lcl.wpG_run [17] _ _ _ (by kernel_rfl) ?_;simp only [List.map_cons,List.map_nil,List.getElem?_toArray,List.getElem?_cons_succ,List.getElem?_cons_zero,Option.getD_some];go_wp2_with fail
       first | exact ⟨bx,x,y,z,er,rfl,⟨XB.out,XR.out,c',ST.out,NR.out,HR.out⟩⟩ | exact ⟨XB.out,XR.out,c',ST.out,NR.out,HR.out⟩ | exact ⟨bx,x,y,z,er,(by simp),⟨XB.out,XR.out,c',ST.out,NR.out,HR.out⟩⟩
     ·go_wp2_with fail
      refine ⟨fun h=>absurd h (by decide),?_⟩;refine Lcl.wpG_one 13 rfl (by kernel_rfl) ?_;go_wp2_with fail
      refine ⟨fun h=>absurd h (by decide),?_⟩;refine Lcl.wpG_one 16 rfl (by kernel_rfl) ?_;have R9:=setRow_heap _ bx _ #[.int .i64 x,.int .i64 y,.int .i64 z] 171 (0,0) XB.out;have FS:=zz (zZ ((Fr.same wb).mono (S':=fun i=>i=bx) fun _ h=>h.elim) (g:=bx) (.inl rfl) #[.int .i64 x,.int .i64 y,.int .i64 z]);go_wp2_with (refine zQ rfl _ _ rfl bx x y z rfl rfl _ XB.out rfl ?_)
      refine ⟨fun h=>absurd h (by decide),?_⟩;have XB:=zz R9;have XR:=zz ((FS.out.block _ (zA XR.out) (fun e=>by have:=LB.out; have:=LR.out; omega)).trans XR.out);have ST:=zz (ST.out.put FS.out NB.out (by have:=LB.out; have:=FD1.out.size; omega));clear R9 FS;refine Lcl.wpG_run [17] _ _ _ (by kernel_rfl) ?_;simp only [List.map_cons,List.map_nil,List.getElem?_toArray,List.getElem?_cons_succ,List.getElem?_cons_zero,Option.getD_some];go_wp2_with fail
      first | exact ⟨bx,x,y,z,er,rfl,⟨XB.out,XR.out,c',ST.out,NR.out,HR.out⟩⟩ | exact ⟨XB.out,XR.out,c',ST.out,NR.out,HR.out⟩ | exact ⟨bx,x,y,z,er,(by simp),⟨XB.out,XR.out,c',ST.out,NR.out,HR.out⟩⟩
   ·have xa:=zC w5 (.cells #[.int .i64 0,.int .i64 0,.int .i64 0] 171)
    have fa:=(Fr.same w5).alloc (.cells #[.int .i64 0,.int .i64 0,.int .i64 0] 171);go_wp2_with fail
    refine ⟨fun _ h=>h.alloc _,?_⟩;have FA:=zz fa;have XB:=zz xa;have XR:=zz ((fa.block _ (zA XR.out) fun h=>h).trans XR.out);have NB:=zz (show ¬c'.T w5.heap.size from fun h=>by have:=ST.out.1.Tlow h; omega);have LB:=L5;have ST:=zz (ST.out.more fa);clear xa fa;generalize w5.alloc (.cells #[.int .i64 0,.int .i64 0,.int .i64 0] 171)=wb at *;generalize w5.heap.size=bx at *;refine Lcl.wpG_one 12 rfl (by kernel_rfl) ?_;go_wp2_with fail
    refine ⟨fun h=>absurd h (by decide),?_⟩;refine Lcl.wpG_two 13 14 rfl rfl (by kernel_rfl) ?_ ?_
    ·go_wp2_with fail
     refine ⟨fun h=>absurd h (by decide),?_⟩;refine Lcl.wpG_two 14 16 rfl rfl (by kernel_rfl) ?_ ?_
     ·go_wp2_with fail
      refine ⟨fun h=>absurd h (by decide),?_⟩;refine Lcl.wpG_one 16 rfl (by kernel_rfl) ?_;have R9:=setRow_heap _ bx _ #[.int .i64 x,.int .i64 y,.int .i64 z] 171 (0,0) XB.out;have FS:=zz (zZ ((Fr.same wb).mono (S':=fun i=>i=bx) fun _ h=>h.elim) (g:=bx) (.inl rfl) #[.int .i64 x,.int .i64 y,.int .i64 z]);go_wp2_with (refine zQ rfl _ _ rfl bx x y z rfl rfl _ XB.out rfl ?_)
      refine ⟨fun h=>absurd h (by decide),?_⟩;have XB:=zz R9;have XR:=zz ((FS.out.block _ (zA XR.out) (fun e=>by have:=LB.out; have:=LR.out; omega)).trans XR.out);have ST:=zz (ST.out.put FS.out NB.out (by have:=LB.out; have:=FD1.out.size; omega));clear R9 FS;refine Lcl.wpG_run [17] _ _ _ (by kernel_rfl) ?_;simp only [List.map_cons,List.map_nil,List.getElem?_toArray,List.getElem?_cons_succ,List.getElem?_cons_zero,Option.getD_some];go_wp2_with fail
      first | exact ⟨bx,x,y,z,er,rfl,⟨XB.out,XR.out,c',ST.out,NR.out,HR.out⟩⟩ | exact ⟨XB.out,XR.out,c',ST.out,NR.out,HR.out⟩ | exact ⟨bx,x,y,z,er,(by simp),⟨XB.out,XR.out,c',ST.out,NR.out,HR.out⟩⟩
     ·have R9:=setRow_heap _ bx _ #[.int .i64 x,.int .i64 y,.int .i64 z] 171 (0,0) XB.out
      have FS:=zz (zZ ((Fr.same wb).mono (S':=fun i=>i=bx) fun _ h=>h.elim) (g:=bx) (.inl rfl) #[.int .i64 x,.int .i64 y,.int .i64 z]);go_wp2_with (refine zQ rfl _ _ rfl bx x y z rfl rfl _ XB.out rfl ?_)
      refine ⟨fun h=>absurd h (by decide),?_⟩;have XB:=zz R9;have XR:=zz ((FS.out.block _ (zA XR.out) (fun e=>by have:=LB.out; have:=LR.out; omega)).trans XR.out);have ST:=zz (ST.out.put FS.out NB.out (by have:=LB.out; have:=FD1.out.size; omega));clear R9 FS;refine Lcl.wpG_one 14 rfl (by kernel_rfl) ?_;go_wp2_with fail
      refine ⟨fun h=>absurd h (by decide),?_⟩;refine Lcl.wpG_run [17] _ _ _ (by kernel_rfl) ?_;simp only [List.map_cons,List.map_nil,List.getElem?_toArray,List.getElem?_cons_succ,List.getElem?_cons_zero,Option.getD_some];go_wp2_with fail
      first | exact ⟨bx,x,y,z,er,rfl,⟨XB.out,XR.out,c',ST.out,NR.out,HR.out⟩⟩ | exact ⟨XB.out,XR.out,c',ST.out,NR.out,HR.out⟩ | exact ⟨bx,x,y,z,er,(by simp),⟨XB.out,XR.out,c',ST.out,NR.out,HR.out⟩⟩
    ·go_wp2_with fail
     refine ⟨fun h=>absurd h (by decide),?_⟩;refine Lcl.wpG_one 13 rfl (by kernel_rfl) ?_;go_wp2_with fail
     refine ⟨fun h=>absurd h (by decide),?_⟩;refine Lcl.wpG_one 16 rfl (by kernel_rfl) ?_;have R9:=setRow_heap _ bx _ #[.int .i64 x,.int .i64 y,.int .i64 z] 171 (0,0) XB.out;have FS:=zz (zZ ((Fr.same wb).mono (S':=fun i=>i=bx) fun _ h=>h.elim) (g:=bx) (.inl rfl) #[.int .i64 x,.int .i64 y,.int .i64 z]);go_wp2_with (refine zQ rfl _ _ rfl bx x y z rfl rfl _ XB.out rfl ?_)
     refine ⟨fun h=>absurd h (by decide),?_⟩;have XB:=zz R9;have XR:=zz ((FS.out.block _ (zA XR.out) (fun e=>by have:=LB.out; have:=LR.out; omega)).trans XR.out);have ST:=zz (ST.out.put FS.out NB.out (by have:=LB.out; have:=FD1.out.size; omega));clear R9 FS;refine Lcl.wpG_run [17] _ _ _ (by kernel_rfl) ?_;simp only [List.map_cons,List.map_nil,List.getElem?_toArray,List.getElem?_cons_succ,List.getElem?_cons_zero,Option.getD_some];go_wp2_with fail
     first | exact ⟨bx,x,y,z,er,rfl,⟨XB.out,XR.out,c',ST.out,NR.out,HR.out⟩⟩ | exact ⟨XB.out,XR.out,c',ST.out,NR.out,HR.out⟩ | exact ⟨bx,x,y,z,er,(by simp),⟨XB.out,XR.out,c',ST.out,NR.out,HR.out⟩⟩
  ·have xa:=zC wd (.cells #[.int .i64 0,.int .i64 0,.int .i64 0] 171)
   have fa:=(Fr.same wd).alloc (.cells #[.int .i64 0,.int .i64 0,.int .i64 0] 171);go_wp2_with fail
   refine ⟨fun _ h=>h.alloc _,?_⟩;have FA:=zz fa;have XB:=zz xa;have XR:=zz ((fa.block _ (zA XR.out) fun h=>h).trans XR.out);have LB:=zz (show wd.heap.size < (wd.alloc (.cells #[.int .i64 0,.int .i64 0,.int .i64 0] 171)).heap.size∧wd.heap.size≤wd.heap.size from ⟨by simp,Nat.le_refl _⟩);clear xa fa;generalize wd.alloc (.cells #[.int .i64 0,.int .i64 0,.int .i64 0] 171)=wb at *;obtain ⟨bx,hbx⟩:∃bx,bx=wd.heap.size:=⟨_,rfl⟩;have LB:=zz (show bx < wb.heap.size∧wd.heap.size≤bx from by rw [hbx]; exact LB.out);rw [←hbx] at XB ⊢;clear hbx;refine Lcl.wpG_one 11 rfl (by kernel_rfl) ?_;go_wp2_with fail
   refine (JC.out _ FA.out).mono ?_;rintro e w5 ⟨x,y,z,er,c',rfl,hst,hr⟩;have ST:=zz (hst.late (FD1.out.tr FA.out));have NB:=zz (show ¬c'.T bx from fun h=>by
    rcases hst.2.2.1 _ h with h | h
    ·have:=CD.out.Tlow h; have:=LB.out.2; omega
    ·have:=LB.out.1; omega)
   have NR:=zz (show ¬c'.T (w.heap.size+1) from fun h=>by
    rcases hst.2.2.1 _ h with h | h
    ·have:=HC0.out.Tlow h; omega
    ·have:=LB.out.1; have:=LB.out.2; have:=LR.out; omega)
   have XB:=zz ((hst.2.2.2.block _ (zA XB.out) fun h=>by have:=CD.out.Tlow h; have:=LB.out.2; omega).trans XB.out);have XR:=zz ((hst.2.2.2.block _ (zA XR.out) fun h=>by have:=HC0.out.Tlow h; omega).trans XR.out);have HR:=zz hr;clear hst hr;go_wp2_with fail
   refine ⟨fun h=>absurd h (by decide),?_⟩;refine Lcl.wpG_one 12 rfl (by kernel_rfl) ?_;go_wp2_with fail
   refine ⟨fun h=>absurd h (by decide),?_⟩;refine Lcl.wpG_two 13 14 rfl rfl (by kernel_rfl) ?_ ?_
   ·go_wp2_with fail
    refine ⟨fun h=>absurd h (by decide),?_⟩;refine Lcl.wpG_two 14 16 rfl rfl (by kernel_rfl) ?_ ?_
    ·go_wp2_with fail
     refine ⟨fun h=>absurd h (by decide),?_⟩;refine Lcl.wpG_one 16 rfl (by kernel_rfl) ?_;have R9:=setRow_heap _ bx _ #[.int .i64 x,.int .i64 y,.int .i64 z] 171 (0,0) XB.out;have FS:=zz (zZ ((Fr.same w5).mono (S':=fun i=>i=bx) fun _ h=>h.elim) (g:=bx) (.inl rfl) #[.int .i64 x,.int .i64 y,.int .i64 z]);go_wp2_with (refine zQ rfl _ _ rfl bx x y z rfl rfl _ XB.out rfl ?_)
     refine ⟨fun h=>absurd h (by decide),?_⟩;have XB:=zz R9;have XR:=zz ((FS.out.block _ (zA XR.out) (fun e=>by have:=LB.out; have:=LR.out; omega)).trans XR.out);have ST:=zz (ST.out.put FS.out NB.out (by have:=LB.out; have:=FD1.out.size; omega));clear R9 FS;refine Lcl.wpG_run [17] _ _ _ (by kernel_rfl) ?_;simp only [List.map_cons,List.map_nil,List.getElem?_toArray,List.getElem?_cons_succ,List.getElem?_cons_zero,Option.getD_some];go_wp2_with fail
     first | exact ⟨bx,x,y,z,er,rfl,⟨XB.out,XR.out,c',ST.out,NR.out,HR.out⟩⟩ | exact ⟨XB.out,XR.out,c',ST.out,NR.out,HR.out⟩ | exact ⟨bx,x,y,z,er,(by simp),⟨XB.out,XR.out,c',ST.out,NR.out,HR.out⟩⟩
    ·have R9:=setRow_heap _ bx _ #[.int .i64 x,.int .i64 y,.int .i64 z] 171 (0,0) XB.out
     have FS:=zz (zZ ((Fr.same w5).mono (S':=fun i=>i=bx) fun _ h=>h.elim) (g:=bx) (.inl rfl) #[.int .i64 x,.int .i64 y,.int .i64 z]);go_wp2_with (refine zQ rfl _ _ rfl bx x y z rfl rfl _ XB.out rfl ?_)
     refine ⟨fun h=>absurd h (by decide),?_⟩;have XB:=zz R9;have XR:=zz ((FS.out.block _ (zA XR.out) (fun e=>by have:=LB.out; have:=LR.out; omega)).trans XR.out);have ST:=zz (ST.out.put FS.out NB.out (by have:=LB.out; have:=FD1.out.size; omega));clear R9 FS;refine Lcl.wpG_one 14 rfl (by kernel_rfl) ?_;go_wp2_with fail
     refine ⟨fun h=>absurd h (by decide),?_⟩;refine Lcl.wpG_run [17] _ _ _ (by kernel_rfl) ?_;simp only [List.map_cons,List.map_nil,List.getElem?_toArray,List.getElem?_cons_succ,List.getElem?_cons_zero,Option.getD_some];go_wp2_with fail
     first | exact ⟨bx,x,y,z,er,rfl,⟨XB.out,XR.out,c',ST.out,NR.out,HR.out⟩⟩ | exact ⟨XB.out,XR.out,c',ST.out,NR.out,HR.out⟩ | exact ⟨bx,x,y,z,er,(by simp),⟨XB.out,XR.out,c',ST.out,NR.out,HR.out⟩⟩
   ·go_wp2_with fail
    refine ⟨fun h=>absurd h (by decide),?_⟩;refine Lcl.wpG_one 13 rfl (by kernel_rfl) ?_;go_wp2_with fail
    refine ⟨fun h=>absurd h (by decide),?_⟩;refine Lcl.wpG_one 16 rfl (by kernel_rfl) ?_;have R9:=setRow_heap _ bx _ #[.int .i64 x,.int .i64 y,.int .i64 z] 171 (0,0) XB.out;have FS:=zz (zZ ((Fr.same w5).mono (S':=fun i=>i=bx) fun _ h=>h.elim) (g:=bx) (.inl rfl) #[.int .i64 x,.int .i64 y,.int .i64 z]);go_wp2_with (refine zQ rfl _ _ rfl bx x y z rfl rfl _ XB.out rfl ?_)
    refine ⟨fun h=>absurd h (by decide),?_⟩;have XB:=zz R9;have XR:=zz ((FS.out.block _ (zA XR.out) (fun e=>by have:=LB.out; have:=LR.out; omega)).trans XR.out);have ST:=zz (ST.out.put FS.out NB.out (by have:=LB.out; have:=FD1.out.size; omega));clear R9 FS;refine Lcl.wpG_run [17] _ _ _ (by kernel_rfl) ?_;simp only [List.map_cons,List.map_nil,List.getElem?_toArray,List.getElem?_cons_succ,List.getElem?_cons_zero,Option.getD_some];go_wp2_with fail
    first | exact ⟨bx,x,y,z,er,rfl,⟨XB.out,XR.out,c',ST.out,NR.out,HR.out⟩⟩ | exact ⟨XB.out,XR.out,c',ST.out,NR.out,HR.out⟩ | exact ⟨bx,x,y,z,er,(by simp),⟨XB.out,XR.out,c',ST.out,NR.out,HR.out⟩⟩
 rintro b x y z er w6 ⟨hb,hx6,c',hst,hnr,hr⟩;have dj:=fun j=>zB hb j
 have X6:=zz hx6;have ST:=zz hst;have NR:=zz hnr;have HR:=zz hr;have R9:=setRow_heap w6 (w.heap.size+1) _ (zS er 0 0 0 x y z (.slice none 0 0) (.slice none 0 0) (.slice none 0 0)) 31 (0,0) hx6;have FN:=zz (zZ ((Fr.same w6).mono (S':=fun i=>i=w.heap.size+1) fun _ h=>h.elim) (g:=w.heap.size+1) (.inl rfl) (zS er 0 0 0 x y z (.slice none 0 0) (.slice none 0 0) (.slice none 0 0)));clear hx6 hst hnr hr dcv hb;go_wp2_with (refine yJ rfl _ _ rfl (w.heap.size+1) er 0 0 0 x y z (.slice none 0 0) (.slice none 0 0) (.slice none 0 0) rfl rfl rfl rfl rfl _ X6.out rfl ?_)
 try simp only [Exit.inBlock,Exit.then]
 refine bodyPost_ret (results_cell_row rfl _ _ (w.heap.size+1) 31 _ (0,0) _ rfl R9 Tryz.underlying31 rfl (by kernel_rfl)) rfl ?_;exact ⟨er,x,y,z,c',rfl,ST.out.put FN.out NR.out (Nat.le_succ _),HR.out⟩
end
end Go.Proofs.YtfdhofabgdkkkaaGreatDoor
