/- A part of the proof that what the machine is told keeps its bounds. -/
import Derived.Test.YtfdhofabgdkkkaaGreatDoorJ41
set_option maxHeartbeats 128000000
set_option maxRecDepth 100000
namespace Go.Proofs.YtfdhofabgdkkkaaGreatDoor
open Lib renaming hid→zz
open Go.RowKit Go.Fm Go.BigFrame Go.Shelf Go.Maps
set_option linter.unusedVariables false
set_option linter.unusedSimpArgs false
section
variable {w w':World} {S:Nat→Prop} {K K2:Nat→Prop}
theorem lets_op0 {hasW:ByteArray→ByteArray→Bool} {C:World→Prop} {B m:Nat} (hH:zIc hasW C) (ih:ue hasW C K K2 B m) (hC:∀w w',C w→Fr (fun _=>False) w w'→C w') (ks:Fst) (nm vl:ByteArray) (kv:Value) (r:Rec) (hv:Value) (w:World) (hm:ks.sz < m+1) (hk:xV K w kv ks) (hh:xi K2 w hv r.hs) (hl:r.hs.length≤1000) (hz:SmE vl ks r) (hB:B≤w.heap.size) (hc:C w):
  Calls Tryz.prog 94 #[exV 0 nm vl kv,xy r hv] w (xG (xo hasW 0 nm vl ks r) w):=by
 obtain ⟨oa,cap,rfl,-⟩:=id hk;obtain ⟨ho,hc2,rfl,-⟩:=id hh;have f1:=(Fr.same w).alloc (.cells #[.int .i64 0,.string nm,.string vl,.slice oa ks.len cap] 38);have f2:=f1.alloc (.cells #[.int .i64 r.at',.int .i64 r.tm,.bool r.bare,.string r.key,.bool r.gone,.string r.val,.slice ho r.hs.length hc2] 95);have s1:(w.alloc (.cells #[.int .i64 0,.string nm,.string vl,.slice oa ks.len cap] 38)).heap.size=w.heap.size+1:=by simp
 have y2:=zC (w.alloc (.cells #[.int .i64 0,.string nm,.string vl,.slice oa ks.len cap] 38)) (.cells #[.int .i64 r.at',.int .i64 r.tm,.bool r.bare,.string r.key,.bool r.gone,.string r.val,.slice ho r.hs.length hc2] 95);rw [s1] at y2;have x2:=(zF (.cells #[.int .i64 r.at',.int .i64 r.tm,.bool r.bare,.string r.key,.bool r.gone,.string r.val,.slice ho r.hs.length hc2] 95) (zA (zC w (.cells #[.int .i64 0,.string nm,.string vl,.slice oa ks.len cap] 38)))).trans (zC w (.cells #[.int .i64 0,.string nm,.string vl,.slice oa ks.len cap] 38));have KW:=zz (hk.old f2);have HW:=zz (hh.old f2);have CW:=zz (hC _ _ hc f2);have BW:=zz (Nat.le_trans hB f2.size);have RB:=zz (show ka _ (w.heap.size+1) r _ from y2);have F2:=zz f2;have X2:=zz x2;have Y2:=zz y2;have dx:=zB x2;have dy:=zB y2;unfold exV xy;clear f1 f2 s1 y2 x2 hk hh hc;go_enter Tryz.func94,Tryz.ntmps94
 go_wp2_with fail
 go_ret
 refine ⟨?_,F2.out⟩;simp [xo,zBy]
theorem lets_op1 {hasW:ByteArray→ByteArray→Bool} {C:World→Prop} {B m:Nat} (hH:zIc hasW C) (ih:ue hasW C K K2 B m) (hC:∀w w',C w→Fr (fun _=>False) w w'→C w') (ks:Fst) (nm vl:ByteArray) (kv:Value) (r:Rec) (hv:Value) (w:World) (hm:ks.sz < m+1) (hk:xV K w kv ks) (hh:xi K2 w hv r.hs) (hl:r.hs.length≤1000) (hz:SmE vl ks r) (hB:B≤w.heap.size) (hc:C w):
  Calls Tryz.prog 94 #[exV 1 nm vl kv,xy r hv] w (xG (xo hasW 1 nm vl ks r) w):=by
 obtain ⟨oa,cap,rfl,-⟩:=id hk;obtain ⟨ho,hc2,rfl,-⟩:=id hh;have f1:=(Fr.same w).alloc (.cells #[.int .i64 1,.string nm,.string vl,.slice oa ks.len cap] 38);have f2:=f1.alloc (.cells #[.int .i64 r.at',.int .i64 r.tm,.bool r.bare,.string r.key,.bool r.gone,.string r.val,.slice ho r.hs.length hc2] 95);have s1:(w.alloc (.cells #[.int .i64 1,.string nm,.string vl,.slice oa ks.len cap] 38)).heap.size=w.heap.size+1:=by simp
 have y2:=zC (w.alloc (.cells #[.int .i64 1,.string nm,.string vl,.slice oa ks.len cap] 38)) (.cells #[.int .i64 r.at',.int .i64 r.tm,.bool r.bare,.string r.key,.bool r.gone,.string r.val,.slice ho r.hs.length hc2] 95);rw [s1] at y2;have x2:=(zF (.cells #[.int .i64 r.at',.int .i64 r.tm,.bool r.bare,.string r.key,.bool r.gone,.string r.val,.slice ho r.hs.length hc2] 95) (zA (zC w (.cells #[.int .i64 1,.string nm,.string vl,.slice oa ks.len cap] 38)))).trans (zC w (.cells #[.int .i64 1,.string nm,.string vl,.slice oa ks.len cap] 38));have KW:=zz (hk.old f2);have HW:=zz (hh.old f2);have CW:=zz (hC _ _ hc f2);have BW:=zz (Nat.le_trans hB f2.size);have RB:=zz (show ka _ (w.heap.size+1) r _ from y2);have F2:=zz f2;have X2:=zz x2;have Y2:=zz y2;have dx:=zB x2;have dy:=zB y2;unfold exV xy;clear f1 f2 s1 y2 x2 hk hh hc;go_enter Tryz.func94,Tryz.ntmps94
 go_wp2_with fail
 generalize ((w.alloc (.cells #[.int .i64 1,.string nm,.string vl,.slice oa ks.len cap] 38)).alloc (.cells #[.int .i64 r.at',.int .i64 r.tm,.bool r.bare,.string r.key,.bool r.gone,.string r.val,.slice ho r.hs.length hc2] 95))=w2 at *;have z0:∀y:Lcl.InS (fun w'=>Fr (fun _=>False) w2 w'),y.w.cell? ⟨w.heap.size,0,none⟩=some (.int .i64 1):=fun y=>y.h.cel (dx 0)
 have z3:∀y:Lcl.InS (fun w'=>Fr (fun _=>False) w2 w'),y.w.cell? ⟨w.heap.size,3,none⟩=some (.slice oa ks.len cap):=fun y=>y.h.cel (dx 3)
 refine Lcl.wp_region_calm (by kernel_rfl) [(true,[0,2,4]),(false,[1,5]),(true,[6])] #[0,1,0,7,0,16,48,127,255] [0,1,2,3,4,5,6] 3 #[true,true,true,false,true,true,true,false,false] (by kernel_rfl) (by kernel_rfl) (by kernel_rfl) (fun w'=>Fr (fun _=>False) w2 w') (Fr.same w2).drew (fun d c a v w h=>by cases d <;> exact h) ?_;simp only [Lcl.opsOf,List.map_cons,List.map_nil,List.getElem?_toArray,List.getElem?_cons_succ,List.getElem?_cons_zero,Option.getD_some];refine Lcl.wpCalm_t ?_
 repeat (go_big_quiet_step (rfl))
 refine wpQuiet_nil ?_;refine Lcl.wpCalm_f ?_
 repeat (go_big_quiet_step (rfl))
 refine wpQuiet_nil ?_;refine Lcl.wpCalm_t ?_
 repeat (go_big_quiet_step (rfl))
 refine wpQuiet_nil ?_;refine Lcl.wpCalm_nil ?_;clear z0 z3 dx dy;have fd:=(Fr.same w2).drew;have CN:=zz (zDh ih hC ks _ r _ (w.heap.size+1) (by omega) (KW.out.old fd) (HW.out.old fd) hl hz.2 (Nat.le_trans BW.out fd.size) (hC _ _ CW.out fd) (RB.out.old fd));have FD:=zz fd;clear fd;refine Lcl.wpG_one 3 rfl (by kernel_rfl) ?_;go_wp2_with fail
 refine CN.out.mono ?_;rintro e w4 ⟨rfl,f4⟩;have D4:=zz (FD.out.tr f4);have F4:=zz (F2.out.tr D4.out);clear f4 CN;go_wp2_with fail
 refine ⟨by intros; exact D4.out,?_⟩;refine Lcl.wpG_run [7,8] _ _ _ (by kernel_rfl) ?_;simp only [List.map_cons,List.map_nil,List.getElem?_toArray,List.getElem?_cons_succ,List.getElem?_cons_zero,Option.getD_some];go_wp2_with fail
 go_ret
 refine ⟨?_,F4.out⟩;simp [xo,zBy]
theorem lets_op2 {hasW:ByteArray→ByteArray→Bool} {C:World→Prop} {B m:Nat} (hH:zIc hasW C) (ih:ue hasW C K K2 B m) (hC:∀w w',C w→Fr (fun _=>False) w w'→C w') (ks:Fst) (nm vl:ByteArray) (kv:Value) (r:Rec) (hv:Value) (w:World) (hm:ks.sz < m+1) (hk:xV K w kv ks) (hh:xi K2 w hv r.hs) (hl:r.hs.length≤1000) (hz:SmE vl ks r) (hB:B≤w.heap.size) (hc:C w):
  Calls Tryz.prog 94 #[exV 2 nm vl kv,xy r hv] w (xG (xo hasW 2 nm vl ks r) w):=by
 obtain ⟨oa,cap,rfl,-⟩:=id hk;obtain ⟨ho,hc2,rfl,-⟩:=id hh;have f1:=(Fr.same w).alloc (.cells #[.int .i64 2,.string nm,.string vl,.slice oa ks.len cap] 38);have f2:=f1.alloc (.cells #[.int .i64 r.at',.int .i64 r.tm,.bool r.bare,.string r.key,.bool r.gone,.string r.val,.slice ho r.hs.length hc2] 95);have s1:(w.alloc (.cells #[.int .i64 2,.string nm,.string vl,.slice oa ks.len cap] 38)).heap.size=w.heap.size+1:=by simp
 have y2:=zC (w.alloc (.cells #[.int .i64 2,.string nm,.string vl,.slice oa ks.len cap] 38)) (.cells #[.int .i64 r.at',.int .i64 r.tm,.bool r.bare,.string r.key,.bool r.gone,.string r.val,.slice ho r.hs.length hc2] 95);rw [s1] at y2;have x2:=(zF (.cells #[.int .i64 r.at',.int .i64 r.tm,.bool r.bare,.string r.key,.bool r.gone,.string r.val,.slice ho r.hs.length hc2] 95) (zA (zC w (.cells #[.int .i64 2,.string nm,.string vl,.slice oa ks.len cap] 38)))).trans (zC w (.cells #[.int .i64 2,.string nm,.string vl,.slice oa ks.len cap] 38));have KW:=zz (hk.old f2);have HW:=zz (hh.old f2);have CW:=zz (hC _ _ hc f2);have BW:=zz (Nat.le_trans hB f2.size);have RB:=zz (show ka _ (w.heap.size+1) r _ from y2);have F2:=zz f2;have X2:=zz x2;have Y2:=zz y2;have dx:=zB x2;have dy:=zB y2;unfold exV xy;clear f1 f2 s1 y2 x2 hk hh hc;go_enter Tryz.func94,Tryz.ntmps94
 have CN:=zz (zMf ih hC ks _ r _ (w.heap.size+1) (by omega) KW.out HW.out hl hz.2 BW.out CW.out RB.out);go_wp2_with fail
 refine CN.out.mono ?_;rintro e w4 ⟨rfl,f4⟩;have F4:=zz (F2.out.tr f4);clear f4 CN;go_wp2_with fail
 go_ret
 refine ⟨?_,F4.out⟩;simp [xo,zBy]
theorem lets_op3 {hasW:ByteArray→ByteArray→Bool} {C:World→Prop} {B m:Nat} (hH:zIc hasW C) (ih:ue hasW C K K2 B m) (hC:∀w w',C w→Fr (fun _=>False) w w'→C w') (ks:Fst) (nm vl:ByteArray) (kv:Value) (r:Rec) (hv:Value) (w:World) (hm:ks.sz < m+1) (hk:xV K w kv ks) (hh:xi K2 w hv r.hs) (hl:r.hs.length≤1000) (hz:SmE vl ks r) (hB:B≤w.heap.size) (hc:C w):
  Calls Tryz.prog 94 #[exV 3 nm vl kv,xy r hv] w (xG (xo hasW 3 nm vl ks r) w):=by
 obtain ⟨oa,cap,rfl,-⟩:=id hk;obtain ⟨ho,hc2,rfl,-⟩:=id hh;have f1:=(Fr.same w).alloc (.cells #[.int .i64 3,.string nm,.string vl,.slice oa ks.len cap] 38);have f2:=f1.alloc (.cells #[.int .i64 r.at',.int .i64 r.tm,.bool r.bare,.string r.key,.bool r.gone,.string r.val,.slice ho r.hs.length hc2] 95);have s1:(w.alloc (.cells #[.int .i64 3,.string nm,.string vl,.slice oa ks.len cap] 38)).heap.size=w.heap.size+1:=by simp
 have y2:=zC (w.alloc (.cells #[.int .i64 3,.string nm,.string vl,.slice oa ks.len cap] 38)) (.cells #[.int .i64 r.at',.int .i64 r.tm,.bool r.bare,.string r.key,.bool r.gone,.string r.val,.slice ho r.hs.length hc2] 95);rw [s1] at y2;have x2:=(zF (.cells #[.int .i64 r.at',.int .i64 r.tm,.bool r.bare,.string r.key,.bool r.gone,.string r.val,.slice ho r.hs.length hc2] 95) (zA (zC w (.cells #[.int .i64 3,.string nm,.string vl,.slice oa ks.len cap] 38)))).trans (zC w (.cells #[.int .i64 3,.string nm,.string vl,.slice oa ks.len cap] 38));have KW:=zz (hk.old f2);have HW:=zz (hh.old f2);have CW:=zz (hC _ _ hc f2);have BW:=zz (Nat.le_trans hB f2.size);have RB:=zz (show ka _ (w.heap.size+1) r _ from y2);have F2:=zz f2;have X2:=zz x2;have Y2:=zz y2;have dx:=zB x2;have dy:=zB y2;unfold exV xy;clear f1 f2 s1 y2 x2 hk hh hc;go_enter Tryz.func94,Tryz.ntmps94
 go_wp2_with fail
 generalize ((w.alloc (.cells #[.int .i64 3,.string nm,.string vl,.slice oa ks.len cap] 38)).alloc (.cells #[.int .i64 r.at',.int .i64 r.tm,.bool r.bare,.string r.key,.bool r.gone,.string r.val,.slice ho r.hs.length hc2] 95))=w2 at *;have z0:∀y:Lcl.InS (fun w'=>Fr (fun _=>False) w2 w'),y.w.cell? ⟨w.heap.size,0,none⟩=some (.int .i64 3):=fun y=>y.h.cel (dx 0)
 have z3:∀y:Lcl.InS (fun w'=>Fr (fun _=>False) w2 w'),y.w.cell? ⟨w.heap.size,3,none⟩=some (.slice oa ks.len cap):=fun y=>y.h.cel (dx 3)
 refine Lcl.wp_region_calm (by kernel_rfl) [(true,[0,2,4]),(false,[1,5]),(true,[6])] #[0,1,0,7,0,16,48,127,255] [0,1,2,3,4,5,6] 3 #[true,true,true,false,true,true,true,false,false] (by kernel_rfl) (by kernel_rfl) (by kernel_rfl) (fun w'=>Fr (fun _=>False) w2 w') (Fr.same w2).drew (fun d c a v w h=>by cases d <;> exact h) ?_;simp only [Lcl.opsOf,List.map_cons,List.map_nil,List.getElem?_toArray,List.getElem?_cons_succ,List.getElem?_cons_zero,Option.getD_some];refine Lcl.wpCalm_t ?_
 repeat (go_big_quiet_step (rfl))
 refine wpQuiet_nil ?_;refine Lcl.wpCalm_f ?_
 repeat (go_big_quiet_step (rfl))
 refine wpQuiet_nil ?_;refine Lcl.wpCalm_t ?_
 repeat (go_big_quiet_step (rfl))
 refine wpQuiet_nil ?_;refine Lcl.wpCalm_nil ?_;clear z0 z3 dx dy;have fd:=(Fr.same w2).drew;have CN:=zz (zDh ih hC ks _ r _ (w.heap.size+1) (by omega) (KW.out.old fd) (HW.out.old fd) hl hz.2 (Nat.le_trans BW.out fd.size) (hC _ _ CW.out fd) (RB.out.old fd));have FD:=zz fd;clear fd;refine Lcl.wpG_one 3 rfl (by kernel_rfl) ?_;go_wp2_with fail
 refine CN.out.mono ?_;rintro e w4 ⟨rfl,f4⟩;have D4:=zz (FD.out.tr f4);have F4:=zz (F2.out.tr D4.out);clear f4 CN;go_wp2_with fail
 refine ⟨by intros; exact D4.out,?_⟩;refine Lcl.wpG_run [7,8] _ _ _ (by kernel_rfl) ?_;simp only [List.map_cons,List.map_nil,List.getElem?_toArray,List.getElem?_cons_succ,List.getElem?_cons_zero,Option.getD_some];go_wp2_with fail
 go_ret
 refine ⟨?_,F4.out⟩;simp [xo,zBy]
theorem lets_op4 {hasW:ByteArray→ByteArray→Bool} {C:World→Prop} {B m:Nat} (hH:zIc hasW C) (ih:ue hasW C K K2 B m) (hC:∀w w',C w→Fr (fun _=>False) w w'→C w') (ks:Fst) (nm vl:ByteArray) (kv:Value) (r:Rec) (hv:Value) (w:World) (hm:ks.sz < m+1) (hk:xV K w kv ks) (hh:xi K2 w hv r.hs) (hl:r.hs.length≤1000) (hz:SmE vl ks r) (hB:B≤w.heap.size) (hc:C w):
  Calls Tryz.prog 94 #[exV 4 nm vl kv,xy r hv] w (xG (xo hasW 4 nm vl ks r) w):=by
 obtain ⟨oa,cap,rfl,-⟩:=id hk;obtain ⟨ho,hc2,rfl,-⟩:=id hh;have f1:=(Fr.same w).alloc (.cells #[.int .i64 4,.string nm,.string vl,.slice oa ks.len cap] 38);have f2:=f1.alloc (.cells #[.int .i64 r.at',.int .i64 r.tm,.bool r.bare,.string r.key,.bool r.gone,.string r.val,.slice ho r.hs.length hc2] 95);have s1:(w.alloc (.cells #[.int .i64 4,.string nm,.string vl,.slice oa ks.len cap] 38)).heap.size=w.heap.size+1:=by simp
 have y2:=zC (w.alloc (.cells #[.int .i64 4,.string nm,.string vl,.slice oa ks.len cap] 38)) (.cells #[.int .i64 r.at',.int .i64 r.tm,.bool r.bare,.string r.key,.bool r.gone,.string r.val,.slice ho r.hs.length hc2] 95);rw [s1] at y2;have x2:=(zF (.cells #[.int .i64 r.at',.int .i64 r.tm,.bool r.bare,.string r.key,.bool r.gone,.string r.val,.slice ho r.hs.length hc2] 95) (zA (zC w (.cells #[.int .i64 4,.string nm,.string vl,.slice oa ks.len cap] 38)))).trans (zC w (.cells #[.int .i64 4,.string nm,.string vl,.slice oa ks.len cap] 38));have KW:=zz (hk.old f2);have HW:=zz (hh.old f2);have CW:=zz (hC _ _ hc f2);have BW:=zz (Nat.le_trans hB f2.size);have RB:=zz (show ka _ (w.heap.size+1) r _ from y2);have F2:=zz f2;have X2:=zz x2;have Y2:=zz y2;have dx:=zB x2;have dy:=zB y2;unfold exV xy;clear f1 f2 s1 y2 x2 hk hh hc;go_enter Tryz.func94,Tryz.ntmps94
 have CN:=zz (zFd r _ nm HW.out hl);unfold xy at CN;go_wp2_with fail
 refine CN.out.mono ?_;rintro e w4 ⟨rfl,f4⟩;have F4:=zz (F2.out.tr f4);have X4:=blk X2.out f4 fun h=>h
 have dx:=zB X4;clear f4 CN X4;obtain ⟨hf,hhf⟩:∃hf,hf=vQ r.hs nm:=⟨_,rfl⟩;rw [←hhf];have HHF:=zz hhf;clear hhf;cases hf with
 | none=>
  simp only [Option.getD_none,Option.isSome_none];go_wp2_with fail
  go_ret
  refine ⟨?_,F4.out⟩;simp [xo,zBy,←HHF.out]
 | some hval=>
  simp only [Option.getD_some,Option.isSome_some];go_wp2_with fail
  all_goals
   go_ret
   refine ⟨?_,F4.out⟩;simp [xo,zBy,←HHF.out]
theorem lets_op5 {hasW:ByteArray→ByteArray→Bool} {C:World→Prop} {B m:Nat} (hH:zIc hasW C) (ih:ue hasW C K K2 B m) (hC:∀w w',C w→Fr (fun _=>False) w w'→C w') (ks:Fst) (nm vl:ByteArray) (kv:Value) (r:Rec) (hv:Value) (w:World) (hm:ks.sz < m+1) (hk:xV K w kv ks) (hh:xi K2 w hv r.hs) (hl:r.hs.length≤1000) (hz:SmE vl ks r) (hB:B≤w.heap.size) (hc:C w):
  Calls Tryz.prog 94 #[exV 5 nm vl kv,xy r hv] w (xG (xo hasW 5 nm vl ks r) w):=by
 obtain ⟨oa,cap,rfl,-⟩:=id hk;obtain ⟨ho,hc2,rfl,-⟩:=id hh;have f1:=(Fr.same w).alloc (.cells #[.int .i64 5,.string nm,.string vl,.slice oa ks.len cap] 38);have f2:=f1.alloc (.cells #[.int .i64 r.at',.int .i64 r.tm,.bool r.bare,.string r.key,.bool r.gone,.string r.val,.slice ho r.hs.length hc2] 95);have s1:(w.alloc (.cells #[.int .i64 5,.string nm,.string vl,.slice oa ks.len cap] 38)).heap.size=w.heap.size+1:=by simp
 have y2:=zC (w.alloc (.cells #[.int .i64 5,.string nm,.string vl,.slice oa ks.len cap] 38)) (.cells #[.int .i64 r.at',.int .i64 r.tm,.bool r.bare,.string r.key,.bool r.gone,.string r.val,.slice ho r.hs.length hc2] 95);rw [s1] at y2;have x2:=(zF (.cells #[.int .i64 r.at',.int .i64 r.tm,.bool r.bare,.string r.key,.bool r.gone,.string r.val,.slice ho r.hs.length hc2] 95) (zA (zC w (.cells #[.int .i64 5,.string nm,.string vl,.slice oa ks.len cap] 38)))).trans (zC w (.cells #[.int .i64 5,.string nm,.string vl,.slice oa ks.len cap] 38));have KW:=zz (hk.old f2);have HW:=zz (hh.old f2);have CW:=zz (hC _ _ hc f2);have BW:=zz (Nat.le_trans hB f2.size);have RB:=zz (show ka _ (w.heap.size+1) r _ from y2);have F2:=zz f2;have X2:=zz x2;have Y2:=zz y2;have dx:=zB x2;have dy:=zB y2;unfold exV xy;clear f1 f2 s1 y2 x2 hk hh hc;go_enter Tryz.func94,Tryz.ntmps94
 have CN:=zz (zFd r _ nm HW.out hl);unfold xy at CN;go_wp2_with fail
 refine CN.out.mono ?_;rintro e w4 ⟨rfl,f4⟩;have F4:=zz (F2.out.tr f4);have X4:=blk X2.out f4 fun h=>h
 have dx:=zB X4;clear f4 CN X4;obtain ⟨hf,hhf⟩:∃hf,hf=vQ r.hs nm:=⟨_,rfl⟩;rw [←hhf];have HHF:=zz hhf;clear hhf;cases hf with
 | none=>
  simp only [Option.getD_none,Option.isSome_none];go_wp2_with fail
  go_ret
  refine ⟨?_,F4.out⟩;simp [xo,zBy,←HHF.out]
 | some hval=>
  simp only [Option.getD_some,Option.isSome_some];go_wp2_with fail
  all_goals
   go_ret
   refine ⟨?_,F4.out⟩;simp [xo,zBy,←HHF.out]
theorem lets_op6 {hasW:ByteArray→ByteArray→Bool} {C:World→Prop} {B m:Nat} (hH:zIc hasW C) (ih:ue hasW C K K2 B m) (hC:∀w w',C w→Fr (fun _=>False) w w'→C w') (ks:Fst) (nm vl:ByteArray) (kv:Value) (r:Rec) (hv:Value) (w:World) (hm:ks.sz < m+1) (hk:xV K w kv ks) (hh:xi K2 w hv r.hs) (hl:r.hs.length≤1000) (hz:SmE vl ks r) (hB:B≤w.heap.size) (hc:C w):
  Calls Tryz.prog 94 #[exV 6 nm vl kv,xy r hv] w (xG (xo hasW 6 nm vl ks r) w):=by
 obtain ⟨oa,cap,rfl,-⟩:=id hk;obtain ⟨ho,hc2,rfl,-⟩:=id hh;have f1:=(Fr.same w).alloc (.cells #[.int .i64 6,.string nm,.string vl,.slice oa ks.len cap] 38);have f2:=f1.alloc (.cells #[.int .i64 r.at',.int .i64 r.tm,.bool r.bare,.string r.key,.bool r.gone,.string r.val,.slice ho r.hs.length hc2] 95);have s1:(w.alloc (.cells #[.int .i64 6,.string nm,.string vl,.slice oa ks.len cap] 38)).heap.size=w.heap.size+1:=by simp
 have y2:=zC (w.alloc (.cells #[.int .i64 6,.string nm,.string vl,.slice oa ks.len cap] 38)) (.cells #[.int .i64 r.at',.int .i64 r.tm,.bool r.bare,.string r.key,.bool r.gone,.string r.val,.slice ho r.hs.length hc2] 95);rw [s1] at y2;have x2:=(zF (.cells #[.int .i64 r.at',.int .i64 r.tm,.bool r.bare,.string r.key,.bool r.gone,.string r.val,.slice ho r.hs.length hc2] 95) (zA (zC w (.cells #[.int .i64 6,.string nm,.string vl,.slice oa ks.len cap] 38)))).trans (zC w (.cells #[.int .i64 6,.string nm,.string vl,.slice oa ks.len cap] 38));have KW:=zz (hk.old f2);have HW:=zz (hh.old f2);have CW:=zz (hC _ _ hc f2);have BW:=zz (Nat.le_trans hB f2.size);have RB:=zz (show ka _ (w.heap.size+1) r _ from y2);have F2:=zz f2;have X2:=zz x2;have Y2:=zz y2;have dx:=zB x2;have dy:=zB y2;unfold exV xy;clear f1 f2 s1 y2 x2 hk hh hc;go_enter Tryz.func94,Tryz.ntmps94
 cases hb:r.bare with
 | true=>
  rw [hb] at dy;have F2b:=F2.out;rw [hb] at F2b;go_wp2_with fail
  go_ret
  refine ⟨?_,F2b⟩;simp [xo,zBy,hb]
 | false=>
  rw [hb] at dy;have F2b:=F2.out;rw [hb] at F2b;go_wp2_with fail
  refine (Tryz.strings_HasPrefix _ _ _).mono ?_;rintro e w4 ⟨rfl,hw⟩;obtain rfl:=hw.symm;go_wp2_with fail
  go_ret
  refine ⟨?_,F2b⟩;simp [xo,zBy,hb]
theorem lets_op7 {hasW:ByteArray→ByteArray→Bool} {C:World→Prop} {B m:Nat} (hH:zIc hasW C) (ih:ue hasW C K K2 B m) (hC:∀w w',C w→Fr (fun _=>False) w w'→C w') (ks:Fst) (nm vl:ByteArray) (kv:Value) (r:Rec) (hv:Value) (w:World) (hm:ks.sz < m+1) (hk:xV K w kv ks) (hh:xi K2 w hv r.hs) (hl:r.hs.length≤1000) (hz:SmE vl ks r) (hB:B≤w.heap.size) (hc:C w):
  Calls Tryz.prog 94 #[exV 7 nm vl kv,xy r hv] w (xG (xo hasW 7 nm vl ks r) w):=by
 obtain ⟨oa,cap,rfl,-⟩:=id hk;obtain ⟨ho,hc2,rfl,-⟩:=id hh;have f1:=(Fr.same w).alloc (.cells #[.int .i64 7,.string nm,.string vl,.slice oa ks.len cap] 38);have f2:=f1.alloc (.cells #[.int .i64 r.at',.int .i64 r.tm,.bool r.bare,.string r.key,.bool r.gone,.string r.val,.slice ho r.hs.length hc2] 95);have s1:(w.alloc (.cells #[.int .i64 7,.string nm,.string vl,.slice oa ks.len cap] 38)).heap.size=w.heap.size+1:=by simp
 have y2:=zC (w.alloc (.cells #[.int .i64 7,.string nm,.string vl,.slice oa ks.len cap] 38)) (.cells #[.int .i64 r.at',.int .i64 r.tm,.bool r.bare,.string r.key,.bool r.gone,.string r.val,.slice ho r.hs.length hc2] 95);rw [s1] at y2;have x2:=(zF (.cells #[.int .i64 r.at',.int .i64 r.tm,.bool r.bare,.string r.key,.bool r.gone,.string r.val,.slice ho r.hs.length hc2] 95) (zA (zC w (.cells #[.int .i64 7,.string nm,.string vl,.slice oa ks.len cap] 38)))).trans (zC w (.cells #[.int .i64 7,.string nm,.string vl,.slice oa ks.len cap] 38));have KW:=zz (hk.old f2);have HW:=zz (hh.old f2);have CW:=zz (hC _ _ hc f2);have BW:=zz (Nat.le_trans hB f2.size);have RB:=zz (show ka _ (w.heap.size+1) r _ from y2);have F2:=zz f2;have X2:=zz x2;have Y2:=zz y2;have dx:=zB x2;have dy:=zB y2;unfold exV xy;clear f1 f2 s1 y2 x2 hk hh hc;go_enter Tryz.func94,Tryz.ntmps94
 cases hb:r.gone with
 | true=>
  rw [hb] at dy;have F2b:=F2.out;rw [hb] at F2b;go_wp2_with fail
  go_ret
  refine ⟨?_,F2b⟩;simp [xo,zBy,hb]
 | false=>
  have CW2:=CW.out;rw [hb] at CW2;have HC:=zz (hH _ r.val vl CW2 hz.2.2 hz.1);rw [hb] at dy;have F2b:=F2.out;rw [hb] at F2b;go_wp2_with fail
  refine HC.out.mono ?_;rintro e w4 ⟨rfl,f4⟩;have F4:=zz (F2b.tr f4);clear f4 HC;go_wp2_with fail
  go_ret
  refine ⟨?_,F4.out⟩;simp [xo,zBy,hb]
theorem lets_opx {hasW:ByteArray→ByteArray→Bool} {C:World→Prop} {B m:Nat} (hH:zIc hasW C) (ih:ue hasW C K K2 B m) (hC:∀w w',C w→Fr (fun _=>False) w w'→C w') (ks:Fst) (op:Int) (hop:op < 0∨7 < op) (nm vl:ByteArray) (kv:Value) (r:Rec) (hv:Value) (w:World) (hm:ks.sz < m+1) (hk:xV K w kv ks) (hh:xi K2 w hv r.hs) (hl:r.hs.length≤1000) (hz:SmE vl ks r) (hB:B≤w.heap.size) (hc:C w):
  Calls Tryz.prog 94 #[exV op nm vl kv,xy r hv] w (xG (xo hasW op nm vl ks r) w):=by
 obtain ⟨oa,cap,rfl,-⟩:=id hk;obtain ⟨ho,hc2,rfl,-⟩:=id hh;have f1:=(Fr.same w).alloc (.cells #[.int .i64 op,.string nm,.string vl,.slice oa ks.len cap] 38);have f2:=f1.alloc (.cells #[.int .i64 r.at',.int .i64 r.tm,.bool r.bare,.string r.key,.bool r.gone,.string r.val,.slice ho r.hs.length hc2] 95);have s1:(w.alloc (.cells #[.int .i64 op,.string nm,.string vl,.slice oa ks.len cap] 38)).heap.size=w.heap.size+1:=by simp
 have y2:=zC (w.alloc (.cells #[.int .i64 op,.string nm,.string vl,.slice oa ks.len cap] 38)) (.cells #[.int .i64 r.at',.int .i64 r.tm,.bool r.bare,.string r.key,.bool r.gone,.string r.val,.slice ho r.hs.length hc2] 95);rw [s1] at y2;have x2:=(zF (.cells #[.int .i64 r.at',.int .i64 r.tm,.bool r.bare,.string r.key,.bool r.gone,.string r.val,.slice ho r.hs.length hc2] 95) (zA (zC w (.cells #[.int .i64 op,.string nm,.string vl,.slice oa ks.len cap] 38)))).trans (zC w (.cells #[.int .i64 op,.string nm,.string vl,.slice oa ks.len cap] 38));have KW:=zz (hk.old f2);have HW:=zz (hh.old f2);have CW:=zz (hC _ _ hc f2);have BW:=zz (Nat.le_trans hB f2.size);have RB:=zz (show ka _ (w.heap.size+1) r _ from y2);have F2:=zz f2;have X2:=zz x2;have Y2:=zz y2;have dx:=zB x2;have dy:=zB y2;unfold exV xy;clear f1 f2 s1 y2 x2 hk hh hc;go_enter Tryz.func94,Tryz.ntmps94
 have n1:¬op=1:=by omega
 have n2:¬op=2:=by omega
 have n3:¬op=3:=by omega
 have n4:¬op=4:=by omega
 have n5:¬op=5:=by omega
 have n6:¬op=6:=by omega
 have n7:¬op=7:=by omega
 go_wp2_with fail
 go_ret
 refine ⟨?_,F2.out⟩;simp [xo,zBy,n1,n2,n3,n4,n5,n6,n7]
theorem zYw {hasW:ByteArray→ByteArray→Bool} {C:World→Prop} {B:Nat} (hH:zIc hasW C) (hC:∀w w',C w→Fr (fun _=>False) w w'→C w') (m:Nat):ue hasW C K K2 B m:=by
 induction m with
 | zero=>intro ks op nm vl kv r hv w h; omega
 | succ m ih=>
  intro ks op nm vl kv r hv w hm hk hh hl hz hB hc;by_cases ho:op < 0∨7 < op
  ·exact lets_opx hH ih hC ks op ho nm vl kv r hv w hm hk hh hl hz hB hc
  have:op=0∨op=1∨op=2∨op=3∨op=4∨op=5∨op=6∨op=7:=by omega
  rcases this with rfl | rfl | rfl | rfl | rfl | rfl | rfl | rfl
  ·exact lets_op0 hH ih hC ks nm vl kv r hv w hm hk hh hl hz hB hc
  ·exact lets_op1 hH ih hC ks nm vl kv r hv w hm hk hh hl hz hB hc
  ·exact lets_op2 hH ih hC ks nm vl kv r hv w hm hk hh hl hz hB hc
  ·exact lets_op3 hH ih hC ks nm vl kv r hv w hm hk hh hl hz hB hc
  ·exact lets_op4 hH ih hC ks nm vl kv r hv w hm hk hh hl hz hB hc
  ·exact lets_op5 hH ih hC ks nm vl kv r hv w hm hk hh hl hz hB hc
  ·exact lets_op6 hH ih hC ks nm vl kv r hv w hm hk hh hl hz hB hc
  ·exact lets_op7 hH ih hC ks nm vl kv r hv w hm hk hh hl hz hB hc
end
end Go.Proofs.YtfdhofabgdkkkaaGreatDoor
