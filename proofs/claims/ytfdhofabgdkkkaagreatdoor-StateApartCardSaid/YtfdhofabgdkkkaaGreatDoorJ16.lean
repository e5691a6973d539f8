/- A part of the proof that what the machine is told keeps its bounds. -/
import Derived.Test.YtfdhofabgdkkkaaGreatDoorJ15
set_option maxHeartbeats 128000000
set_option maxRecDepth 100000
namespace Go.Proofs.YtfdhofabgdkkkaaGreatDoor
open Lib renaming hid→zz
open Go.RowKit Go.Fm Go.BigFrame Go.Shelf Go.Maps
set_option linter.unusedVariables false
set_option linter.unusedSimpArgs false
structure Req where
 kind:Int
 name:ByteArray
 index:Int
 count:Int
 from':Int
 flag:Bool
 bat:Bat
 fop:Int
 fnm:ByteArray
 fvl:ByteArray
 group:ByteArray
 member:Int
 gen:Int
def zT (q:Req) (rv kv tv:Value):Array Value:=#[.int .i64 q.kind,.string q.name,.int .i64 q.index,.int .i64 q.count,.int .i64 q.from',.bool q.flag,
 .int .i64 q.bat.base,.int .i64 q.bat.span,.int .i64 q.bat.prod,.int .i64 q.bat.epoch,.int .i64 q.bat.seq,rv,.int .i64 q.fop,.string q.fnm,.string q.fvl,kv,.string q.group,.int .i64 q.member,.int .i64 q.gen,tv]
structure zBf (q:Req):Prop where
 kind:(Lit.int .i64 q.kind).wf=true
 index:(Lit.int .i64 q.index).wf=true
 count:(Lit.int .i64 q.count).wf=true
 from':(Lit.int .i64 q.from').wf=true
 member:(Lit.int .i64 q.member).wf=true
 gen:(Lit.int .i64 q.gen).wf=true
 name:q.name.size≤200000000000000
 group:q.group.size≤200000000000000
 bat:(uU q.bat).size≤60008
noncomputable def yQ (s:ByteArray) (q:Req) (ft lt:ByteArray):ByteArray:=
 plS (plS (s++zM q.kind++zI q.name) [q.index,q.count,q.from']++zM (if q.flag then 1 else 0)++zI (uU q.bat)++ft++zI q.group) [q.member,q.gen]++lt
noncomputable def reqB (bad:Bool) (q:Req) (fok lok:Bool):Bool:=
 plB ((((plB ((bad || !okN q.kind 1 14) || !okT q.name 100) [q.index,q.count,q.from']) || !zCn q.bat) || !fok) || !okT q.group 100) [q.member,q.gen] || !lok
section
variable {w w':World} {cb xb:Nat} {s:ByteArray} {bad:Bool} {S:Nat→Prop}
structure zCp (w:World) (xb:Nat) (q:Req) (rv kv tv:Value):Prop where
 b:w.heap[xb]?=some (.cells (zT q rv kv tv) 41 (0,0))
theorem zCp.fr {q:Req} {rv kv tv:Value} (h:zCp w xb q rv kv tv) (hf:Fr S w w') (h1:¬S xb):zCp w' xb q rv kv tv:=⟨(hf.block _ (zA h.b) h1).trans h.b⟩
theorem zCp.old {q:Req} {rv kv tv:Value} (h:zCp w xb q rv kv tv) (hf:Fr (fun _=>False) w w'):zCp w' xb q rv kv tv:=h.fr hf fun h=>h
theorem zCp.cell {q:Req} {rv kv tv:Value} (h:zCp w xb q rv kv tv) (j:Nat):w.cell? ⟨xb,j,none⟩=(zT q rv kv tv)[j]?:=zB h.b j
theorem zCp.batAt {q:Req} {rv kv tv:Value} (h:zCp w xb q rv kv tv):zCd w ⟨xb,6,none⟩ q.bat rv:=⟨h.cell 6,h.cell 7,h.cell 8,h.cell 9,h.cell 10,h.cell 11⟩
def zNj (w:World) (bx cb:Nat):Prop:=w.heap[bx]?=some (.cells #[.pointer (some ⟨cb,0,none⟩)] 146 (0,0))
theorem zNj.fr {bx:Nat} (h:zNj w bx cb) (hf:Fr S w w') (h1:¬S bx):zNj w' bx cb:=(hf.block _ (zA h) h1).trans h
def FilC (w:World) (cb xb:Nat) (ft:ByteArray) (fok:Bool):Prop:=∀(w':World) (s:ByteArray) (bad:Bool),Fr (fun i=>i=cb) w w'→jQ w' cb s bad→s.size≤1600000000000000→Calls Tryz.prog 123 #[.pointer (some ⟨cb,0,none⟩),.pointer (some ⟨xb,12,none⟩)] w' (jf w' cb (s++ft) (bad || !fok))
def CodIf (w:World) (cb:Nat) (T:ByteArray) (bad:Bool) (e:Ending) (w':World):Prop:=e=.returned (.tuple #[])∧(∃s',jQ w' cb s' bad∧(bad=false→s'=T)∧s'.size≤4000000000000000000)∧Fr (fun i=>i=cb) w w'
def TopC (w:World) (cb xb:Nat) (lt:ByteArray) (lok:Bool):Prop:=∀(w':World) (bx:Nat) (s:ByteArray) (bad:Bool),Fr (fun i=>i=cb) w w'→jQ w' cb s bad→zNj w' bx cb→bx≠cb→s.size≤1600000000000000→Calls Tryz.prog 124 #[.pointer (some ⟨cb,0,none⟩),.pointer (some ⟨xb,19,none⟩),.int .i64 20,.func (.func 125) #[] #[.pointer (some ⟨bx,0,none⟩)]] w' (CodIf w' cb (s++lt) (bad || !lok))
theorem zIo (h:jQ w cb s bad) (q:Req) (rv kv tv:Value) (hx:zCp w xb q rv kv tv) (K:Nat→Prop) (hr:xE K w rv q.bat.recs) (hK:¬K cb) (hne:xb≠cb) (hcs:0≠cb) (hwf:zBf q) (hs:s.size≤20000000000000) (hst:zc w) (ft lt:ByteArray) (fok lok:Bool)
  (hft:ft.size≤200000000000000) (hfil:FilC w cb xb ft fok) (htop:TopC w cb xb lt lok):
  Calls Tryz.prog 68 #[.pointer (some ⟨cb,0,none⟩),.pointer (some ⟨xb,0,none⟩)] w (CodIf w cb (yQ s q ft lt) (reqB bad q fok lok)):=by
 have hcb:=zA h;have hxb:=zA hx.b;have f0:=(Fr.same w).alloc (.cells #[.pointer (some ⟨cb,0,none⟩)] 146);have BX:=zz (show zNj _ w.heap.size cb from zC w (.cells #[.pointer (some ⟨cb,0,none⟩)] 146));have H:=zz (h.old f0);have X:=zz (hx.old f0);have R:=zz (hr.old f0);have ST:=zz (hst.old f0);have F:=zz (f0.mono (S':=fun i=>i=cb) fun _ h=>h.elim);have WF:=zz hwf;have FIL:=zz hfil;have TOP:=zz htop;have KF:∀(i:Nat),K i→i≠cb:=fun i hi e=>hK (e ▸ hi)
 have KC:=zz KF;clear f0 h hx hr hst hwf hfil htop hK KF;have p1:=zb WF.out.kind;have p2:=xt (show q.name.size≤1000000000000000000 by have:=WF.out.name; omega);have p5:=xt (show (uU q.bat).size≤1000000000000000000 by have:=WF.out.bat; omega);have p7:=xt (show q.group.size≤1000000000000000000 by have:=WF.out.group; omega);have w2:=WF.out.name;have w5:=WF.out.bat;have w7:=WF.out.group;have SZ:=zz (show (s++zM q.kind).size≤200000000000000∧(s++zM q.kind++zI q.name).size≤400000000000000 by simp only [ByteArray.size_append]; omega);have q3:=vi [q.index,q.count,q.from'] (s++zM q.kind++zI q.name) (by
  intro n hn;rcases List.mem_cons.1 hn with rfl | hn
  ·exact WF.out.index
  rcases List.mem_cons.1 hn with rfl | hn
  ·exact WF.out.count
  rcases List.mem_cons.1 hn with rfl | hn
  ·exact WF.out.from'
  ·cases hn)
 have SZ3:=zz (show (plS (s++zM q.kind++zI q.name) [q.index,q.count,q.from']).size≤420000000000000 by have:=SZ.out.2; simp only [List.length_cons,List.length_nil] at q3; omega);have p4:=zb (show (Lit.int .i64 (if q.flag then 1 else 0)).wf=true by cases q.flag <;> rfl);have SZ4:=zz (show (plS (s++zM q.kind++zI q.name) [q.index,q.count,q.from']++zM (if q.flag then 1 else 0)).size≤440000000000000 by rw [ByteArray.size_append]; have:=SZ3.out; omega);have SZ5:=zz (show (plS (s++zM q.kind++zI q.name) [q.index,q.count,q.from']++zM (if q.flag then 1 else 0)++zI (uU q.bat)).size≤600000000000000 by rw [ByteArray.size_append]; have:=SZ4.out; omega);have SZ6:=zz (show (plS (s++zM q.kind++zI q.name) [q.index,q.count,q.from']++zM (if q.flag then 1 else 0)++zI (uU q.bat)++ft).size≤800000000000000 by rw [ByteArray.size_append]; have:=SZ5.out; omega);have SZ7:=zz (show (plS (s++zM q.kind++zI q.name) [q.index,q.count,q.from']++zM (if q.flag then 1 else 0)++zI (uU q.bat)++ft++zI q.group).size≤1020000000000000 by rw [ByteArray.size_append]; have:=SZ6.out; omega);have q8:=vi [q.member,q.gen] (plS (s++zM q.kind++zI q.name) [q.index,q.count,q.from']++zM (if q.flag then 1 else 0)++zI (uU q.bat)++ft++zI q.group) (by
  intro n hn;rcases List.mem_cons.1 hn with rfl | hn
  ·exact WF.out.member
  rcases List.mem_cons.1 hn with rfl | hn
  ·exact WF.out.gen
  ·cases hn)
 have SZ8:=zz (show (plS (plS (s++zM q.kind++zI q.name) [q.index,q.count,q.from']++zM (if q.flag then 1 else 0)++zI (uU q.bat)++ft++zI q.group) [q.member,q.gen]).size≤1200000000000000 by have:=SZ7.out; simp only [List.length_cons,List.length_nil] at q8; omega);clear p1 p2 p5 p7 w2 w5 w7 q3 p4 q8 hs hft;go_enter Tryz.func68,Tryz.ntmps68
 go_wp2_with fail
 generalize (w.alloc (.cells #[.pointer (some ⟨cb,0,none⟩)] 146))=W1 at *;generalize hbx:w.heap.size=bx at *;clear hbx;have z0:∀y:Lcl.InS (fun w'=>Fr (fun _=>False) W1 w'),y.w.cell? ⟨bx,0,none⟩=some (.pointer (some ⟨cb,0,none⟩)):=fun y=>y.h.cel ((zB BX.out 0).trans rfl)
 refine Lcl.wp_region_calm (by kernel_rfl) [(true,[1,2,3]),(false,[0])] #[0,0,2,6,15] [0,1,2,3] 1 #[true,true,true,true,false] (by kernel_rfl) (by kernel_rfl) (by kernel_rfl) (fun w'=>Fr (fun _=>False) W1 w') (Fr.same W1).drew (fun d c a v w h=>by cases d <;> exact h) ?_;simp only [Lcl.opsOf,List.map_cons,List.map_nil,List.getElem?_toArray,List.getElem?_cons_succ,List.getElem?_cons_zero,Option.getD_some];refine Lcl.wpCalm_t ?_;repeat (go_big_quiet_step (rfl))
 refine wpQuiet_nil ?_;refine Lcl.wpCalm_f ?_;repeat (go_big_quiet_step (rfl))
 refine wpQuiet_nil ?_;refine Lcl.wpCalm_nil ?_;clear z0;have BX:=zz (BX.out.fr (Fr.same W1).drew fun h=>h);have H:=zz (H.out.old (Fr.same W1).drew);have X:=zz (X.out.old (Fr.same W1).drew);have R:=zz (R.out.old (Fr.same W1).drew);have ST:=zz (ST.out.old (Fr.same W1).drew);have F:=zz F.out.drew;generalize W1.drew=V1 at *;refine Lcl.wpG_run [4] _ _ _ (by kernel_rfl) ?_;simp only [List.map_cons,List.map_nil,List.getElem?_toArray,List.getElem?_cons_succ,List.getElem?_cons_zero,Option.getD_some];have CW:=zz (jg H.out ⟨xb,0,none⟩ q.kind 1 14 WF.out.kind (X.out.cell 0) hne (by have:=SZ.out.1; have:=ByteArray.size_append (a:=s) (b:=zM q.kind); omega));go_wp2_with fail
 refine CW.out.mono ?_;rintro e W2 ⟨rfl,hh,hf⟩;have H:=zz hh;have X:=zz (X.out.fr hf (by omega));have R:=zz (R.out.fr hf (fun i hi=>KC.out i hi));have ST:=zz (ST.out.fr hf hcs);have BX:=zz (BX.out.fr hf (by omega));have F:=zz (F.out.trans hf fun _ h=>.inl h);clear hh hf CW;go_wp2_with fail
 have z0:∀y:Lcl.InS (fun w'=>Fr (fun _=>False) W2 w'),y.w.cell? ⟨bx,0,none⟩=some (.pointer (some ⟨cb,0,none⟩)):=fun y=>y.h.cel ((zB BX.out 0).trans rfl)
 refine Lcl.wp_region_calm (by kernel_rfl) [(true,[1,2,3]),(false,[0])] #[0,0,2,6,15] [0,1,2,3] 1 #[true,true,true,true,false] (by kernel_rfl) (by kernel_rfl) (by kernel_rfl) (fun w'=>Fr (fun _=>False) W2 w') (Fr.same W2).drew (fun d c a v w h=>by cases d <;> exact h) ?_;simp only [Lcl.opsOf,List.map_cons,List.map_nil,List.getElem?_toArray,List.getElem?_cons_succ,List.getElem?_cons_zero,Option.getD_some];refine Lcl.wpCalm_t ?_;repeat (go_big_quiet_step (rfl))
 refine wpQuiet_nil ?_;refine Lcl.wpCalm_f ?_;repeat (go_big_quiet_step (rfl))
 refine wpQuiet_nil ?_;refine Lcl.wpCalm_nil ?_;clear z0;have BX:=zz (BX.out.fr (Fr.same W2).drew fun h=>h);have H:=zz (H.out.old (Fr.same W2).drew);have X:=zz (X.out.old (Fr.same W2).drew);have R:=zz (R.out.old (Fr.same W2).drew);have ST:=zz (ST.out.old (Fr.same W2).drew);have F:=zz F.out.drew;generalize W2.drew=V2 at *;refine Lcl.wpG_run [4] _ _ _ (by kernel_rfl) ?_;simp only [List.map_cons,List.map_nil,List.getElem?_toArray,List.getElem?_cons_succ,List.getElem?_cons_zero,Option.getD_some];have CW:=zz (yw H.out ⟨xb,1,none⟩ q.name 100 (by have:=WF.out.name; omega) (X.out.cell 1) hne (by have:=SZ.out.1; omega));go_wp2_with fail
 refine CW.out.mono ?_;rintro e W3 ⟨rfl,hh,hf⟩;have H:=zz hh;have X:=zz (X.out.fr hf (by omega));have R:=zz (R.out.fr hf (fun i hi=>KC.out i hi));have ST:=zz (ST.out.fr hf hcs);have BX:=zz (BX.out.fr hf (by omega));have F:=zz (F.out.trans hf fun _ h=>.inl h);clear hh hf CW;go_wp2_with fail
 have z0:∀y:Lcl.InS (fun w'=>Fr (fun _=>False) W3 w'),y.w.cell? ⟨bx,0,none⟩=some (.pointer (some ⟨cb,0,none⟩)):=fun y=>y.h.cel ((zB BX.out 0).trans rfl)
 refine Lcl.wp_region_calm (by kernel_rfl) [(true,[1,2,3,4,5,6,7,8,9]),(false,[0])] #[0,0,2,6,0,16,48,0,128,384,1022,2047] [0,1,2,3,4,5,6,7,8,9,10] 2 #[true,true,true,true,true,true,true,true,true,true,false,false] (by kernel_rfl) (by kernel_rfl) (by kernel_rfl) (fun w'=>Fr (fun _=>False) W3 w') (Fr.same W3).drew (fun d c a v w h=>by cases d <;> exact h) ?_;simp only [Lcl.opsOf,List.map_cons,List.map_nil,List.getElem?_toArray,List.getElem?_cons_succ,List.getElem?_cons_zero,Option.getD_some];refine Lcl.wpCalm_t ?_;repeat (go_big_quiet_step (rfl))
 refine wpQuiet_nil ?_;refine Lcl.wpCalm_f ?_;repeat (go_big_quiet_step (rfl))
 refine wpQuiet_nil ?_;refine Lcl.wpCalm_nil ?_;clear z0;have BX:=zz (BX.out.fr (Fr.same W3).drew fun h=>h);have H:=zz (H.out.old (Fr.same W3).drew);have X:=zz (X.out.old (Fr.same W3).drew);have R:=zz (R.out.old (Fr.same W3).drew);have ST:=zz (ST.out.old (Fr.same W3).drew);have F:=zz F.out.drew;have DR:=zz (Fr.same W3).drew;generalize W3.drew=V3 at *;refine Lcl.wpG_one 10 rfl (by kernel_rfl) ?_;have fa:=(Fr.same V3).alloc (.cells #[.pointer (some ⟨xb,2,none⟩),.pointer (some ⟨xb,3,none⟩),.pointer (some ⟨xb,4,none⟩)] 224);have xa:=zC V3 (.cells #[.pointer (some ⟨xb,2,none⟩),.pointer (some ⟨xb,3,none⟩),.pointer (some ⟨xb,4,none⟩)] 224);have AX:=zz (zB xa);have hltB:=zA BX.out;have hltX:=zA X.out.b;have hltC:=zA H.out;have AB:=zz (show cb < V3.heap.size∧bx < V3.heap.size∧xb < V3.heap.size from ⟨hltC,hltB,hltX⟩);clear hltB hltX hltC;have BX:=zz (BX.out.fr fa fun h=>h);have H:=zz (H.out.old fa);have X:=zz (X.out.old fa);have R:=zz (R.out.old fa);have ST:=zz (ST.out.old fa);have F:=zz (F.out.trans fa fun _ h=>h.elim);have DR:=zz (DR.out.tr fa);clear fa xa;go_wp2_with fail
 refine ⟨fun _ _=>DR.out,?_⟩;generalize (V3.alloc (.cells #[.pointer (some ⟨xb,2,none⟩),.pointer (some ⟨xb,3,none⟩),.pointer (some ⟨xb,4,none⟩)] 224))=U3 at *;refine Lcl.wpG_run [11] _ _ _ (by kernel_rfl) ?_;simp only [List.map_cons,List.map_nil,List.getElem?_toArray,List.getElem?_cons_succ,List.getElem?_cons_zero,Option.getD_some];have CW:=zz (zEr H.out ⟨V3.heap.size,0,none⟩ [((⟨xb,2,none⟩:Addr),q.index),((⟨xb,3,none⟩:Addr),q.count),((⟨xb,4,none⟩:Addr),q.from')] (by simp) (by
  intro i x hx;rcases i with _ | _ | _ | i
  ·obtain rfl:=Option.some.inj hx
   exact ⟨by rw [zi]; exact (AX.out 0).trans rfl,X.out.cell 2,hne,WF.out.index⟩
  ·obtain rfl:=Option.some.inj hx
   exact ⟨by rw [zi]; exact (AX.out 1).trans rfl,X.out.cell 3,hne,WF.out.count⟩
  ·obtain rfl:=Option.some.inj hx
   exact ⟨by rw [zi]; exact (AX.out 2).trans rfl,X.out.cell 4,hne,WF.out.from'⟩
  all_goals simp at hx) (by show V3.heap.size≠cb; have:=AB.out.1; omega) (by have:=SZ.out.2; omega))
 simp only [List.map_cons,List.map_nil] at CW;go_wp2_with fail
 refine CW.out.mono ?_;rintro e W4 ⟨rfl,hh,hf⟩;have H:=zz hh;have X:=zz (X.out.fr hf (by omega));have R:=zz (R.out.fr hf (fun i hi=>KC.out i hi));have ST:=zz (ST.out.fr hf hcs);have BX:=zz (BX.out.fr hf (by omega));have F:=zz (F.out.trans hf fun _ h=>.inl h);clear hh hf CW;go_wp2_with fail
 have z0:∀y:Lcl.InS (fun w'=>Fr (fun _=>False) W4 w'),y.w.cell? ⟨bx,0,none⟩=some (.pointer (some ⟨cb,0,none⟩)):=fun y=>y.h.cel ((zB BX.out 0).trans rfl)
 refine Lcl.wp_region_calm (by kernel_rfl) [(true,[1,2,3]),(false,[0])] #[0,0,2,6,15] [0,1,2,3] 1 #[true,true,true,true,false] (by kernel_rfl) (by kernel_rfl) (by kernel_rfl) (fun w'=>Fr (fun _=>False) W4 w') (Fr.same W4).drew (fun d c a v w h=>by cases d <;> exact h) ?_;simp only [Lcl.opsOf,List.map_cons,List.map_nil,List.getElem?_toArray,List.getElem?_cons_succ,List.getElem?_cons_zero,Option.getD_some];refine Lcl.wpCalm_t ?_;repeat (go_big_quiet_step (rfl))
 refine wpQuiet_nil ?_;refine Lcl.wpCalm_f ?_;repeat (go_big_quiet_step (rfl))
 refine wpQuiet_nil ?_;refine Lcl.wpCalm_nil ?_;clear z0;have BX:=zz (BX.out.fr (Fr.same W4).drew fun h=>h);have H:=zz (H.out.old (Fr.same W4).drew);have X:=zz (X.out.old (Fr.same W4).drew);have R:=zz (R.out.old (Fr.same W4).drew);have ST:=zz (ST.out.old (Fr.same W4).drew);have F:=zz F.out.drew;generalize W4.drew=V4 at *;refine Lcl.wpG_run [4] _ _ _ (by kernel_rfl) ?_;simp only [List.map_cons,List.map_nil,List.getElem?_toArray,List.getElem?_cons_succ,List.getElem?_cons_zero,Option.getD_some];have CW:=zz (zQl H.out xb 5 _ 41 q.flag X.out.b rfl hne (by have:=SZ3.out; omega));go_wp2_with fail
 refine CW.out.mono ?_;rintro e W5 ⟨rfl,hh,hf⟩;have H:=zz hh;have X:=zz (X.out.fr hf (by omega));have R:=zz (R.out.fr hf (fun i hi=>KC.out i hi));have ST:=zz (ST.out.fr hf hcs);have BX:=zz (BX.out.fr hf (by omega));have F:=zz (F.out.trans hf fun _ h=>.inl h);clear hh hf CW;go_wp2_with fail
 have z0:∀y:Lcl.InS (fun w'=>Fr (fun _=>False) W5 w'),y.w.cell? ⟨bx,0,none⟩=some (.pointer (some ⟨cb,0,none⟩)):=fun y=>y.h.cel ((zB BX.out 0).trans rfl)
 refine Lcl.wp_region_calm (by kernel_rfl) [(true,[1,2,3]),(false,[0])] #[0,0,2,6,15] [0,1,2,3] 1 #[true,true,true,true,false] (by kernel_rfl) (by kernel_rfl) (by kernel_rfl) (fun w'=>Fr (fun _=>False) W5 w') (Fr.same W5).drew (fun d c a v w h=>by cases d <;> exact h) ?_;simp only [Lcl.opsOf,List.map_cons,List.map_nil,List.getElem?_toArray,List.getElem?_cons_succ,List.getElem?_cons_zero,Option.getD_some];refine Lcl.wpCalm_t ?_;repeat (go_big_quiet_step (rfl))
 refine wpQuiet_nil ?_;refine Lcl.wpCalm_f ?_;repeat (go_big_quiet_step (rfl))
 refine wpQuiet_nil ?_;refine Lcl.wpCalm_nil ?_;clear z0;have BX:=zz (BX.out.fr (Fr.same W5).drew fun h=>h);have H:=zz (H.out.old (Fr.same W5).drew);have X:=zz (X.out.old (Fr.same W5).drew);have R:=zz (R.out.old (Fr.same W5).drew);have ST:=zz (ST.out.old (Fr.same W5).drew);have F:=zz F.out.drew;generalize W5.drew=V5 at *;refine Lcl.wpG_run [4] _ _ _ (by kernel_rfl) ?_;simp only [List.map_cons,List.map_nil,List.getElem?_toArray,List.getElem?_cons_succ,List.getElem?_cons_zero,Option.getD_some];have CW:=zz (zNi H.out xb 6 K q.bat rv X.out.batAt R.out hne (fun h=>KC.out _ h rfl) (by have:=SZ4.out; omega) ST.out);go_wp2_with fail
 refine CW.out.mono ?_;rintro e W6 ⟨rfl,hh,hf⟩;have H:=zz hh;have X:=zz (X.out.fr hf (by omega));have R:=zz (R.out.fr hf (fun i hi=>KC.out i hi));have ST:=zz (ST.out.fr hf hcs);have BX:=zz (BX.out.fr hf (by omega));have F:=zz (F.out.trans hf fun _ h=>.inl h);clear hh hf CW;go_wp2_with fail
 have z0:∀y:Lcl.InS (fun w'=>Fr (fun _=>False) W6 w'),y.w.cell? ⟨bx,0,none⟩=some (.pointer (some ⟨cb,0,none⟩)):=fun y=>y.h.cel ((zB BX.out 0).trans rfl)
 refine Lcl.wp_region_calm (by kernel_rfl) [(true,[1,2,3]),(false,[0])] #[0,0,2,6,15] [0,1,2,3] 1 #[true,true,true,true,false] (by kernel_rfl) (by kernel_rfl) (by kernel_rfl) (fun w'=>Fr (fun _=>False) W6 w') (Fr.same W6).drew (fun d c a v w h=>by cases d <;> exact h) ?_;simp only [Lcl.opsOf,List.map_cons,List.map_nil,List.getElem?_toArray,List.getElem?_cons_succ,List.getElem?_cons_zero,Option.getD_some];refine Lcl.wpCalm_t ?_;repeat (go_big_quiet_step (rfl))
 refine wpQuiet_nil ?_;refine Lcl.wpCalm_f ?_;repeat (go_big_quiet_step (rfl))
 refine wpQuiet_nil ?_;refine Lcl.wpCalm_nil ?_;clear z0;have BX:=zz (BX.out.fr (Fr.same W6).drew fun h=>h);have H:=zz (H.out.old (Fr.same W6).drew);have X:=zz (X.out.old (Fr.same W6).drew);have R:=zz (R.out.old (Fr.same W6).drew);have ST:=zz (ST.out.old (Fr.same W6).drew);have F:=zz F.out.drew;generalize W6.drew=V6 at *;refine Lcl.wpG_run [4] _ _ _ (by kernel_rfl) ?_;simp only [List.map_cons,List.map_nil,List.getElem?_toArray,List.getElem?_cons_succ,List.getElem?_cons_zero,Option.getD_some];have CW:=zz (FIL.out _ _ _ F.out H.out (by have:=SZ5.out; omega));go_wp2_with fail
 refine CW.out.mono ?_;rintro e W7 ⟨rfl,hh,hf⟩;have H:=zz hh;have X:=zz (X.out.fr hf (by omega));have R:=zz (R.out.fr hf (fun i hi=>KC.out i hi));have ST:=zz (ST.out.fr hf hcs);have BX:=zz (BX.out.fr hf (by omega));have F:=zz (F.out.trans hf fun _ h=>.inl h);clear hh hf CW;go_wp2_with fail
 have z0:∀y:Lcl.InS (fun w'=>Fr (fun _=>False) W7 w'),y.w.cell? ⟨bx,0,none⟩=some (.pointer (some ⟨cb,0,none⟩)):=fun y=>y.h.cel ((zB BX.out 0).trans rfl)
 refine Lcl.wp_region_calm (by kernel_rfl) [(true,[1,2,3]),(false,[0])] #[0,0,2,6,15] [0,1,2,3] 1 #[true,true,true,true,false] (by kernel_rfl) (by kernel_rfl) (by kernel_rfl) (fun w'=>Fr (fun _=>False) W7 w') (Fr.same W7).drew (fun d c a v w h=>by cases d <;> exact h) ?_;simp only [Lcl.opsOf,List.map_cons,List.map_nil,List.getElem?_toArray,List.getElem?_cons_succ,List.getElem?_cons_zero,Option.getD_some];refine Lcl.wpCalm_t ?_;repeat (go_big_quiet_step (rfl))
 refine wpQuiet_nil ?_;refine Lcl.wpCalm_f ?_;repeat (go_big_quiet_step (rfl))
 refine wpQuiet_nil ?_;refine Lcl.wpCalm_nil ?_;clear z0;have BX:=zz (BX.out.fr (Fr.same W7).drew fun h=>h);have H:=zz (H.out.old (Fr.same W7).drew);have X:=zz (X.out.old (Fr.same W7).drew);have R:=zz (R.out.old (Fr.same W7).drew);have ST:=zz (ST.out.old (Fr.same W7).drew);have F:=zz F.out.drew;generalize W7.drew=V7 at *;refine Lcl.wpG_run [4] _ _ _ (by kernel_rfl) ?_;simp only [List.map_cons,List.map_nil,List.getElem?_toArray,List.getElem?_cons_succ,List.getElem?_cons_zero,Option.getD_some];have CW:=zz (yw H.out ⟨xb,16,none⟩ q.group 100 (by have:=WF.out.group; omega) (X.out.cell 16) hne (by have:=SZ6.out; omega));go_wp2_with fail
 refine CW.out.mono ?_;rintro e W8 ⟨rfl,hh,hf⟩;have H:=zz hh;have X:=zz (X.out.fr hf (by omega));have R:=zz (R.out.fr hf (fun i hi=>KC.out i hi));have ST:=zz (ST.out.fr hf hcs);have BX:=zz (BX.out.fr hf (by omega));have F:=zz (F.out.trans hf fun _ h=>.inl h);clear hh hf CW;go_wp2_with fail
 have z0:∀y:Lcl.InS (fun w'=>Fr (fun _=>False) W8 w'),y.w.cell? ⟨bx,0,none⟩=some (.pointer (some ⟨cb,0,none⟩)):=fun y=>y.h.cel ((zB BX.out 0).trans rfl)
 refine Lcl.wp_region_calm (by kernel_rfl) [(true,[1,2,3,4,5,6]),(false,[0])] #[0,0,2,6,0,16,48,126,255] [0,1,2,3,4,5,6,7] 2 #[true,true,true,true,true,true,true,false,false] (by kernel_rfl) (by kernel_rfl) (by kernel_rfl) (fun w'=>Fr (fun _=>False) W8 w') (Fr.same W8).drew (fun d c a v w h=>by cases d <;> exact h) ?_;simp only [Lcl.opsOf,List.map_cons,List.map_nil,List.getElem?_toArray,List.getElem?_cons_succ,List.getElem?_cons_zero,Option.getD_some];refine Lcl.wpCalm_t ?_;repeat (go_big_quiet_step (rfl))
 refine wpQuiet_nil ?_;refine Lcl.wpCalm_f ?_;repeat (go_big_quiet_step (rfl))
 refine wpQuiet_nil ?_;refine Lcl.wpCalm_nil ?_;clear z0;have BX:=zz (BX.out.fr (Fr.same W8).drew fun h=>h);have H:=zz (H.out.old (Fr.same W8).drew);have X:=zz (X.out.old (Fr.same W8).drew);have R:=zz (R.out.old (Fr.same W8).drew);have ST:=zz (ST.out.old (Fr.same W8).drew);have F:=zz F.out.drew;have DR:=zz (Fr.same W8).drew;generalize W8.drew=V8 at *;refine Lcl.wpG_one 7 rfl (by kernel_rfl) ?_;have fa:=(Fr.same V8).alloc (.cells #[.pointer (some ⟨xb,17,none⟩),.pointer (some ⟨xb,18,none⟩)] 224);have xa:=zC V8 (.cells #[.pointer (some ⟨xb,17,none⟩),.pointer (some ⟨xb,18,none⟩)] 224);have AX:=zz (zB xa);have hltB:=zA BX.out;have hltX:=zA X.out.b;have hltC:=zA H.out;have AB:=zz (show cb < V8.heap.size∧bx < V8.heap.size∧xb < V8.heap.size from ⟨hltC,hltB,hltX⟩);clear hltB hltX hltC;have BX:=zz (BX.out.fr fa fun h=>h);have H:=zz (H.out.old fa);have X:=zz (X.out.old fa);have R:=zz (R.out.old fa);have ST:=zz (ST.out.old fa);have F:=zz (F.out.trans fa fun _ h=>h.elim);have DR:=zz (DR.out.tr fa);clear fa xa;go_wp2_with fail
 refine ⟨fun _ _=>DR.out,?_⟩;generalize (V8.alloc (.cells #[.pointer (some ⟨xb,17,none⟩),.pointer (some ⟨xb,18,none⟩)] 224))=U8 at *;refine Lcl.wpG_run [8] _ _ _ (by kernel_rfl) ?_;simp only [List.map_cons,List.map_nil,List.getElem?_toArray,List.getElem?_cons_succ,List.getElem?_cons_zero,Option.getD_some];have CW:=zz (zEr H.out ⟨V8.heap.size,0,none⟩ [((⟨xb,17,none⟩:Addr),q.member),((⟨xb,18,none⟩:Addr),q.gen)] (by simp) (by
  intro i x hx;rcases i with _ | _ | _ | i
  ·obtain rfl:=Option.some.inj hx
   exact ⟨by rw [zi]; exact (AX.out 0).trans rfl,X.out.cell 17,hne,WF.out.member⟩
  ·obtain rfl:=Option.some.inj hx
   exact ⟨by rw [zi]; exact (AX.out 1).trans rfl,X.out.cell 18,hne,WF.out.gen⟩
  all_goals simp at hx) (by show V8.heap.size≠cb; have:=AB.out.1; omega) (by have:=SZ7.out; omega))
 simp only [List.map_cons,List.map_nil] at CW;go_wp2_with fail
 refine CW.out.mono ?_;rintro e W9 ⟨rfl,hh,hf⟩;have H:=zz hh;have X:=zz (X.out.fr hf (by omega));have R:=zz (R.out.fr hf (fun i hi=>KC.out i hi));have ST:=zz (ST.out.fr hf hcs);have BX:=zz (BX.out.fr hf (by omega));have F:=zz (F.out.trans hf fun _ h=>.inl h);clear hh hf CW;go_wp2_with fail
 have z0:∀y:Lcl.InS (fun w'=>Fr (fun _=>False) W9 w'),y.w.cell? ⟨bx,0,none⟩=some (.pointer (some ⟨cb,0,none⟩)):=fun y=>y.h.cel ((zB BX.out 0).trans rfl)
 refine Lcl.wp_region_calm (by kernel_rfl) [(true,[1,2,3]),(false,[0])] #[0,0,2,6,0,31] [0,1,2,3,4] 2 #[true,true,true,true,false,false] (by kernel_rfl) (by kernel_rfl) (by kernel_rfl) (fun w'=>Fr (fun _=>False) W9 w') (Fr.same W9).drew (fun d c a v w h=>by cases d <;> exact h) ?_;simp only [Lcl.opsOf,List.map_cons,List.map_nil,List.getElem?_toArray,List.getElem?_cons_succ,List.getElem?_cons_zero,Option.getD_some];refine Lcl.wpCalm_t ?_;repeat (go_big_quiet_step (rfl))
 refine wpQuiet_nil ?_;refine Lcl.wpCalm_f ?_;repeat (go_big_quiet_step (rfl))
 refine wpQuiet_nil ?_;refine Lcl.wpCalm_nil ?_;clear z0;have BX:=zz (BX.out.fr (Fr.same W9).drew fun h=>h);have H:=zz (H.out.old (Fr.same W9).drew);have X:=zz (X.out.old (Fr.same W9).drew);have R:=zz (R.out.old (Fr.same W9).drew);have ST:=zz (ST.out.old (Fr.same W9).drew);have F:=zz F.out.drew;have DR:=zz (Fr.same W9).drew;generalize W9.drew=V9 at *;refine Lcl.wpG_one 4 rfl (by kernel_rfl) ?_;go_wp2_with fail
 refine ⟨fun _ _=>DR.out,?_⟩;refine Lcl.wpG_run [5] _ _ _ (by kernel_rfl) ?_;simp only [List.map_cons,List.map_nil,List.getElem?_toArray,List.getElem?_cons_succ,List.getElem?_cons_zero,Option.getD_some];have CW:=zz (TOP.out _ bx _ _ F.out H.out BX.out (by omega) (by have:=SZ8.out; omega));go_wp2_with fail
 refine CW.out.mono ?_;rintro e W10 ⟨rfl,⟨s9,hh,heq,hsz⟩,hf⟩;have HEQ:=zz heq;have HSZ:=zz hsz;clear heq hsz;have H:=zz hh;have X:=zz (X.out.fr hf (by omega));have R:=zz (R.out.fr hf (fun i hi=>KC.out i hi));have ST:=zz (ST.out.fr hf hcs);have BX:=zz (BX.out.fr hf (by omega));have F:=zz (F.out.trans hf fun _ h=>.inl h);clear hh hf CW;go_wp2_with fail
 go_end0
 unfold yQ reqB;exact ⟨rfl,⟨s9,H.out,HEQ.out,HSZ.out⟩,F.out⟩
end
end Go.Proofs.YtfdhofabgdkkkaaGreatDoor
