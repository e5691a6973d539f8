/- A part of the proof that what the machine is told keeps its bounds. -/
import Derived.Test.YtfdhofabgdkkkaaGreatDoorJ45
import Derived.Test.YtfdhofabgdkkkaaGreatDoorJ41
set_option maxHeartbeats 128000000
set_option maxRecDepth 100000
namespace Go.Proofs.YtfdhofabgdkkkaaGreatDoor
open Lib renaming hid→zz
open Go.RowKit Go.Fm Go.BigFrame Go.Shelf Go.Maps
set_option linter.unusedVariables false
set_option linter.unusedSimpArgs false
section
variable {w w':World} {S:Nat→Prop}
def DoFetchA (f:Rec→Bool) (w:World) (m:zG) (d:zR) (at' cnt:Int) (e:Ending) (w':World):Prop:=
 jD f w d at' cnt e w'∧zW w' m
theorem zFf {f:Rec→Bool} {d:zR} {a c:Int} {e:Ending} (h:jD f w d a c e w'):∃ee st en bv,e=.returned (.agg (zS ee 0 st en 0 0 0 bv (.slice none 0 0) (.slice none 0 0)))∧bv.oneCell'=true:=by
 rcases h with ⟨-,rfl,-⟩ | ⟨-,bv,rfl,hb,-⟩
 ·exact ⟨12,0,0,_,rfl,rfl⟩
 ·obtain ⟨oa,cap,rfl,-⟩:=hb
  exact ⟨_,_,_,_,rfl,rfl⟩
theorem zEf {f:Rec→Bool} {d:zR} {a c:Int} {e:Ending} (h:jD f w d a c e w'):Fr (fun _=>False) w w':=by
 rcases h with ⟨-,-,h⟩ | ⟨-,bv,-,-,h⟩
 ·exact h
 ·exact h
theorem zZb {f:Rec→Bool} {w0 w1 w2 w3:World} {d:zR} {a c:Int} {e:Ending} (h:jD f w1 d a c e w2) (hf:Fr (fun _=>False) w0 w1) (S:Nat→Prop) (hS:∀i,S i→w0.heap.size≤i∧i < w1.heap.size) (hg:Fr S w2 w3):jD f w0 d a c e w3:=by
 rcases h with ⟨h1,h2,h⟩ | ⟨h1,bv,h2,hb,h⟩
 ·exact .inl ⟨h1,h2,(hf.tr h).trans hg fun i hi=>.inr (hS i hi).1⟩
 ·refine .inr ⟨h1,bv,h2,(hb.fr hg fun k hk hs=>?_).mono fun k hk _=>Nat.le_trans hf.size hk,(hf.tr h).trans hg fun i hi=>.inr (hS i hi).1⟩
  have:=(hS k hs).2
  have hk:w1.heap.size≤k:=hk;omega
end
section
variable {w w':World} {S:Nat→Prop}
theorem do_bad {m:zG} (hM:zW w m) (q:Req) (rv kv tv:Value) (K:Nat→Prop) (ft lt:ByteArray) (fok lok:Bool) (hE:xM w q rv kv tv K ft lt fok lok) (he:zy q ft lt fok lok=false) (now:Int):
  Calls Tryz.prog 12 #[.pointer (some ⟨m.mb,0,none⟩),.agg (zT q rv kv tv),.int .i64 now] w fun e w'=>e=.returned (xC 1 0)∧zW w' m∧Fr (fun _=>False) w w':=by
 have f2:=((Fr.same w).alloc (.cells #[.int .i64 q.kind,.string q.name,.int .i64 q.index,.int .i64 q.count,.int .i64 q.from',.bool q.flag,.int .i64 q.bat.base,.int .i64 q.bat.span,.int .i64 q.bat.prod,.int .i64 q.bat.epoch,.int .i64 q.bat.seq,rv,.int .i64 q.fop,.string q.fnm,.string q.fvl,kv,.string q.group,.int .i64 q.member,.int .i64 q.gen,tv] 41)).alloc (.cells #[.int .i64 0,.int .i64 0,.int .i64 0,.int .i64 0,.int .i64 0,.int .i64 0,.int .i64 0,.slice none 0 0,.slice none 0 0,.slice none 0 0] 31);have s1:(w.alloc (.cells #[.int .i64 q.kind,.string q.name,.int .i64 q.index,.int .i64 q.count,.int .i64 q.from',.bool q.flag,.int .i64 q.bat.base,.int .i64 q.bat.span,.int .i64 q.bat.prod,.int .i64 q.bat.epoch,.int .i64 q.bat.seq,rv,.int .i64 q.fop,.string q.fnm,.string q.fvl,kv,.string q.group,.int .i64 q.member,.int .i64 q.gen,tv] 41)).heap.size=w.heap.size+1:=by simp
 have x1:=zC (w.alloc (.cells #[.int .i64 q.kind,.string q.name,.int .i64 q.index,.int .i64 q.count,.int .i64 q.from',.bool q.flag,.int .i64 q.bat.base,.int .i64 q.bat.span,.int .i64 q.bat.prod,.int .i64 q.bat.epoch,.int .i64 q.bat.seq,rv,.int .i64 q.fop,.string q.fnm,.string q.fvl,kv,.string q.group,.int .i64 q.member,.int .i64 q.gen,tv] 41)) (.cells #[.int .i64 0,.int .i64 0,.int .i64 0,.int .i64 0,.int .i64 0,.int .i64 0,.int .i64 0,.slice none 0 0,.slice none 0 0,.slice none 0 0] 31);rw [s1] at x1;have X1:=zz x1;have xq:=(zF (.cells #[.int .i64 0,.int .i64 0,.int .i64 0,.int .i64 0,.int .i64 0,.int .i64 0,.int .i64 0,.slice none 0 0,.slice none 0 0,.slice none 0 0] 31) (zA (zC w (.cells #[.int .i64 q.kind,.string q.name,.int .i64 q.index,.int .i64 q.count,.int .i64 q.from',.bool q.flag,.int .i64 q.bat.base,.int .i64 q.bat.span,.int .i64 q.bat.prod,.int .i64 q.bat.epoch,.int .i64 q.bat.seq,rv,.int .i64 q.fop,.string q.fnm,.string q.fvl,kv,.string q.group,.int .i64 q.member,.int .i64 q.gen,tv] 41)))).trans (zC w (.cells #[.int .i64 q.kind,.string q.name,.int .i64 q.index,.int .i64 q.count,.int .i64 q.from',.bool q.flag,.int .i64 q.bat.base,.int .i64 q.bat.span,.int .i64 q.bat.prod,.int .i64 q.bat.epoch,.int .i64 q.bat.seq,rv,.int .i64 q.fop,.string q.fnm,.string q.fvl,kv,.string q.group,.int .i64 q.member,.int .i64 q.gen,tv] 41));have XQ:=zz xq;have M2:=zz (hM.old f2);have LOW:=zz hM.low;have E2:=hE.keep f2;have EN:=zz E2;have CW:=zz (zBg q rv kv tv K ft lt fok lok E2);have F2:=zz f2;have WF:=zz hE.wf;clear f2 s1 x1 hM hE E2;unfold zT at CW ⊢;go_enter Tryz.func12,Tryz.ntmps12
 go_wp2_with (refine wpList_load_row rfl 41 _ rfl w.heap.size rfl 41 _ (0,0) _ xq Tryz.underlying41 rfl (by kernel_rfl) ?_)
 clear xq;generalize ((w.alloc (.cells #[.int .i64 q.kind,.string q.name,.int .i64 q.index,.int .i64 q.count,.int .i64 q.from',.bool q.flag,.int .i64 q.bat.base,.int .i64 q.bat.span,.int .i64 q.bat.prod,.int .i64 q.bat.epoch,.int .i64 q.bat.seq,rv,.int .i64 q.fop,.string q.fnm,.string q.fvl,kv,.string q.group,.int .i64 q.member,.int .i64 q.gen,tv] 41)).alloc (.cells #[.int .i64 0,.int .i64 0,.int .i64 0,.int .i64 0,.int .i64 0,.int .i64 0,.int .i64 0,.slice none 0 0,.slice none 0 0,.slice none 0 0] 31))=w2 at *;refine CW.out.mono ?_;rintro e w3 ⟨rfl,hf3⟩;rw [he];unfold zDx;simp only [if_false,Bool.false_eq_true];have M3:=zz (M2.out.old hf3);have X1:=zz ((hf3.block _ (zA X1.out) fun h=>h).trans X1.out);have F3:=zz (F2.out.tr hf3);clear hf3 CW M2 EN F2 XQ;go_wp2_with fail
 refine (yh 0 1 (by decide) w3).mono ?_;rintro e w8 ⟨rfl,hf8⟩;have X8:=(hf8.block _ (zA X1.out) fun h=>h).trans X1.out;have fE:=zZ (S:=fun i=>i=w.heap.size+1) (Fr.refl _ w8) (.inl rfl) (zS 1 0 0 0 0 0 0 (.slice none 0 0) (.slice none 0 0) (.slice none 0 0));have MF:=zz (show zW _ m from (M3.out.old hf8).fr fE (fun i hi e=>by have:=LOW.out.1 i hi; omega) fun x hx i hi e=>by have:=LOW.out.2 x hx i hi; omega);have F9:=zz (zZ (F3.out.tr hf8) (g:=w.heap.size+1) (.inr (by omega)) (zS 1 0 0 0 0 0 0 (.slice none 0 0) (.slice none 0 0) (.slice none 0 0)));have R9:=setRow_heap w8 (w.heap.size+1) _ (zS 1 0 0 0 0 0 0 (.slice none 0 0) (.slice none 0 0) (.slice none 0 0)) 31 (0,0) X8;clear hf8 fE;go_wp2_with (refine zJ rfl _ _ rfl (w.heap.size+1) 1 0 rfl rfl _ X8 rfl ?_)
 try simp only [Exit.inBlock,Exit.then]
 refine bodyPost_ret (results_cell_row rfl _ _ (w.heap.size+1) 31 _ (0,0) _ rfl R9 Tryz.underlying31 rfl (by kernel_rfl)) rfl ?_;exact ⟨rfl,MF.out,F9.out⟩
end
section
variable {w w':World} {S:Nat→Prop}
theorem fourp (w:World) (pa:Option Addr):∃w6 w7 w8 w9,
  (Instr.mapUpdate 92 (.map (some w.heap.size)) (.int .i64 4) (.func (.func 37) #[.pointer pa] #[])).run Tryz.prog (w.alloc (.map #[] 0))=.ok () w6∧
  (Instr.mapUpdate 92 (.map (some w.heap.size)) (.int .i64 5) (.func (.func 38) #[.pointer pa] #[])).run Tryz.prog w6=.ok () w7∧
  (Instr.mapUpdate 92 (.map (some w.heap.size)) (.int .i64 6) (.func (.func 39) #[.pointer pa] #[])).run Tryz.prog w7=.ok () w8∧
  (Instr.mapUpdate 92 (.map (some w.heap.size)) (.int .i64 7) (.func (.func 40) #[.pointer pa] #[])).run Tryz.prog w8=.ok () w9∧
  (Instr.lookup 92 (.map (some w.heap.size)) (.int .i64 4) true).run Tryz.prog w9=.ok (.tuple #[.func (.func 37) #[.pointer pa] #[],.bool true]) w9∧
  (Instr.lookup 92 (.map (some w.heap.size)) (.int .i64 5) true).run Tryz.prog w9=.ok (.tuple #[.func (.func 38) #[.pointer pa] #[],.bool true]) w9∧
  (Instr.lookup 92 (.map (some w.heap.size)) (.int .i64 6) true).run Tryz.prog w9=.ok (.tuple #[.func (.func 39) #[.pointer pa] #[],.bool true]) w9∧
  (Instr.lookup 92 (.map (some w.heap.size)) (.int .i64 7) true).run Tryz.prog w9=.ok (.tuple #[.func (.func 40) #[.pointer pa] #[],.bool true]) w9∧
  (∀k:Int,8≤k→k≤20→(Instr.lookup 92 (.map (some w.heap.size)) (.int .i64 k) true).run Tryz.prog w9=.ok (.tuple #[.nilFunc,.bool false]) w9)∧
  Fr (fun _=>False) w w6∧Fr (fun _=>False) w w7∧Fr (fun _=>False) w w8∧Fr (fun _=>False) w w9:=by
 have h5:=xT.made zUs w;obtain ⟨w6,r6,h6,g6⟩:=h5.upd uk 92 89 Tryz.underlying92 (by simp) 4 rfl (.func (.func 37) #[.pointer pa] #[]);obtain ⟨w7,r7,h7,g7⟩:=h6.upd uk 92 89 Tryz.underlying92 (by simp [jb]) 5 rfl (.func (.func 38) #[.pointer pa] #[]);obtain ⟨w8,r8,h8,g8⟩:=h7.upd uk 92 89 Tryz.underlying92 (by simp [jb]) 6 rfl (.func (.func 39) #[.pointer pa] #[]);obtain ⟨w9,r9,h9,g9⟩:=h8.upd uk 92 89 Tryz.underlying92 (by simp [jb]) 7 rfl (.func (.func 40) #[.pointer pa] #[]);have f5:=(Fr.same w).alloc (.map #[] 0);have f6:=f5.grown g6 fun k hk=>.inr (by cases hk; exact Nat.le_refl _)
 have f7:=f6.grown g7 fun k hk=>.inr (by cases hk; exact Nat.le_refl _)
 have f8:=f7.grown g8 fun k hk=>.inr (by cases hk; exact Nat.le_refl _)
 have f9:=f8.grown g9 fun k hk=>.inr (by cases hk; exact Nat.le_refl _)
 have l4:=h9.look uk Tryz.underlying92 (zGv w9) (k:=4) rfl;have l5:=h9.look uk Tryz.underlying92 (zGv w9) (k:=5) rfl;have l6:=h9.look uk Tryz.underlying92 (zGv w9) (k:=6) rfl;have l7:=h9.look uk Tryz.underlying92 (zGv w9) (k:=7) rfl;simp only [va] at l4 l5 l6 l7;refine ⟨w6,w7,w8,w9,r6,r7,r8,r9,l4,l5,l6,l7,fun k h1 h2=>?_,f6,f7,f8,f9⟩;have lk:=h9.look uk Tryz.underlying92 (zGv w9) (k:=k) (by show (Lit.int .i64 k).wf=true; simp [Lit.wf,IntKind.min,IntKind.max,IntKind.signed,IntKind.bits]; omega);simp only [va] at lk;rw [if_neg (by omega),if_neg (by omega),if_neg (by omega),if_neg (by omega)] at lk;exact lk
def Thru (R:World→Ending→World→Prop) (w:World) (e:Ending) (w':World):Prop:=∃(w4 w5:World) (rb:Nat),Fr (fun _=>False) w w4∧w.heap.size≤rb∧rb < w4.heap.size∧R w4 e w5∧Fr (fun i=>i=rb) w5 w'
def vC (R:World→Ending→World→Prop) (w:World):Prop:=∀(w4:World) (e:Ending) (w5:World),Fr (fun _=>False) w w4→R w4 e w5→(∃(ee aa st en mm gg ll:Int) (bv tv pv:Value),e=.returned (.agg (zS ee aa st en mm gg ll bv tv pv))∧bv.oneCell'=true∧tv.oneCell'=true∧pv.oneCell'=true)∧∀b,w.heap.size≤b→b < w4.heap.size→w5.heap[b]?=w4.heap[b]?
theorem zAi {m:zG} (hM:zW w m) (q:Req) (rv kv tv:Value) (K:Nat→Prop) (ft lt:ByteArray) (fok lok:Bool) (hE:xM w q rv kv tv K ft lt fok lok) (hsz:(yQ ByteArray.empty q ft lt).size≤2000000000000000) (he:zy q ft lt fok lok=true) (now:Int) {fn:FuncId} (hfn:(q.kind=1∧fn=34)∨(q.kind=2∧fn=35)) (R:World→Ending→World→Prop) (hP:vC R w)
  (hR:∀w4,Fr (fun _=>False) w w4→Calls Tryz.prog fn #[.pointer (some ⟨m.mb,0,none⟩),.agg (zT q rv kv tv)] w4 (R w4)):
  Calls Tryz.prog 12 #[.pointer (some ⟨m.mb,0,none⟩),.agg (zT q rv kv tv),.int .i64 now] w (Thru R w):=by
 rcases hfn with ⟨hk,rfl⟩ | ⟨hk,rfl⟩
 all_goals
  obtain ⟨w1,hw1,f1,xq,x1⟩:=zBk w q rv kv tv;have X1:=zz x1;have M2:=zz (hM.old f1);have E2:=hE.keep f1;have EN:=zz E2;have CW:=zz (jH q rv kv tv K ft lt fok lok E2 hsz);have F2:=zz f1;have WF:=zz hE.wf;have HP:=zz hP;have HR:=zz hR;have LR:=zz (zA x1);clear f1 x1 hM hE E2 hsz hP hR;unfold zT at CW HR xq hw1 ⊢;unfold yE at hw1;rw [hk] at CW HR xq hw1 ⊢;have XQ:=zz xq;have xqe:=xq;rw [hw1] at xqe;clear xq;go_enter Tryz.func12,Tryz.ntmps12
  go_wp2_with (refine wpList_load_row rfl 41 _ rfl w.heap.size rfl 41 _ (0,0) _ xqe Tryz.underlying41 rfl (by kernel_rfl) ?_)
  rw [←hw1];clear hw1 xqe;refine CW.out.mono ?_;rintro e w3 ⟨rfl,hf3⟩;have M3:=zz (M2.out.old hf3);have X1:=zz ((hf3.block _ (zA X1.out) fun h=>h).trans X1.out);have XQ:=zz ((hf3.block _ (zA XQ.out) fun h=>h).trans XQ.out);have F3:=zz (F2.out.tr hf3);clear hf3 CW M2 EN F2;rw [he];unfold zDx;simp only [if_true];have FW:=zz (jR M3.out q.name q.index (by have:=WF.out.name; unfold maxLen; omega) WF.out.index);obtain ⟨fd,hfd⟩:∃fd,fd=zU m q.name q.index:=⟨_,rfl⟩;rw [←hfd] at FW;clear hfd;have hpv:∃pa,zFn fd=.pointer pa:=by cases fd <;> exact ⟨_,rfl⟩
  obtain ⟨pa,hpv⟩:=hpv;rw [hpv] at FW;clear hpv;have dq:=fun j=>zB XQ.out j
  go_wp2_with fail
  refine FW.out.mono ?_;rintro e w4 ⟨rfl,hf4⟩;have X1:=zz ((hf4.block _ (zA X1.out) fun h=>h).trans X1.out);have XQ:=zz ((hf4.block _ (zA XQ.out) fun h=>h).trans XQ.out);have F4:=zz (F3.out.tr hf4);clear hf4 FW M3 F3 dq;have dq:=fun j=>zB XQ.out j
  have xl:=XQ.out;have X9:=X1.out;go_wp2_with (refine wpList_load_row rfl 41 _ rfl w.heap.size rfl 41 _ (0,0) _ xl Tryz.underlying41 rfl (by kernel_rfl) ?_)
  have F9:=F4;clear xl dq;refine (HR.out w4 F9.out).mono ?_;rintro e w10 hpp;have HPP:=zz hpp;obtain ⟨⟨ee,aa,st',en',mm,gg,ll,bv,tv9,pv9,hee,h1,h2,h3⟩,hkeep⟩:=HP.out _ _ _ F9.out hpp;subst hee;have L9:=zA X9;have X10:=(hkeep (w.heap.size+1) (Nat.le_succ _) L9).trans X9;have R10:=setRow_heap w10 (w.heap.size+1) _ (zS ee aa st' en' mm gg ll bv tv9 pv9) 31 (0,0) X10;have FE:=zz (zZ (S:=fun i=>i=w.heap.size+1) (Fr.refl _ w10) (.inl rfl) (zS ee aa st' en' mm gg ll bv tv9 pv9));have LL:=zz L9;clear hpp hkeep X9 L9 HR HP;go_wp2_with (refine yJ rfl _ _ rfl (w.heap.size+1) ee aa st' en' mm gg ll bv tv9 pv9 h1 h2 h3 rfl rfl _ X10 rfl ?_)
  try simp only [Exit.inBlock,Exit.then]
  refine bodyPost_ret (results_cell_row rfl _ _ (w.heap.size+1) 31 _ (0,0) _ rfl R10 Tryz.underlying31 rfl (by kernel_rfl)) rfl ?_;exact ⟨w4,w10,w.heap.size+1,F9.out,Nat.le_succ _,LL.out,HPP.out,FE.out⟩
theorem zAj {m:zG} (hM:zW w m) (q:Req) (rv kv tv:Value) (K:Nat→Prop) (ft lt:ByteArray) (fok lok:Bool) (hE:xM w q rv kv tv K ft lt fok lok) (hsz:(yQ ByteArray.empty q ft lt).size≤2000000000000000) (he:zy q ft lt fok lok=true) {d:zR} (hd:zU m q.name q.index=some d) (now:Int) {fn:FuncId} {args:Array Value} (hfn:(q.kind=4∧fn=37∧args=#[.pointer (some ⟨d.xb,0,none⟩),.agg (zT q rv kv tv)])∨(q.kind=5∧fn=38∧args=#[.pointer (some ⟨d.xb,0,none⟩),.agg (zT q rv kv tv)])∨(q.kind=6∧fn=39∧args=#[.pointer (some ⟨d.xb,0,none⟩),.agg (zT q rv kv tv)])∨(q.kind=7∧fn=40∧args=#[.pointer (some ⟨d.xb,0,none⟩),.agg (zT q rv kv tv)])∨(q.kind=12∧fn=41∧args=#[.pointer (some ⟨m.mb,0,none⟩),.agg (zT q rv kv tv),.int .i64 now])) (R:World→Ending→World→Prop) (hP:vC R w)
  (hR:∀w4,Fr (fun _=>False) w w4→Calls Tryz.prog fn args w4 (R w4)):
  Calls Tryz.prog 12 #[.pointer (some ⟨m.mb,0,none⟩),.agg (zT q rv kv tv),.int .i64 now] w (Thru R w):=by
 rcases hfn with ⟨hk,rfl,rfl⟩ | ⟨hk,rfl,rfl⟩ | ⟨hk,rfl,rfl⟩ | ⟨hk,rfl,rfl⟩ | ⟨hk,rfl,rfl⟩
 all_goals
  obtain ⟨w1,hw1,f1,xq,x1⟩:=zBk w q rv kv tv;have X1:=zz x1;have M2:=zz (hM.old f1);have E2:=hE.keep f1;have EN:=zz E2;have CW:=zz (jH q rv kv tv K ft lt fok lok E2 hsz);have F2:=zz f1;have WF:=zz hE.wf;have HP:=zz hP;have HR:=zz hR;have LR:=zz (zA x1);clear f1 x1 hM hE E2 hsz hP hR;unfold zT at CW HR xq hw1 ⊢;unfold yE at hw1;rw [hk] at CW HR xq hw1 ⊢;have XQ:=zz xq;have xqe:=xq;rw [hw1] at xqe;clear xq;go_enter Tryz.func12,Tryz.ntmps12
  go_wp2_with (refine wpList_load_row rfl 41 _ rfl w.heap.size rfl 41 _ (0,0) _ xqe Tryz.underlying41 rfl (by kernel_rfl) ?_)
  rw [←hw1];clear hw1 xqe;refine CW.out.mono ?_;rintro e w3 ⟨rfl,hf3⟩;have M3:=zz (M2.out.old hf3);have X1:=zz ((hf3.block _ (zA X1.out) fun h=>h).trans X1.out);have XQ:=zz ((hf3.block _ (zA XQ.out) fun h=>h).trans XQ.out);have F3:=zz (F2.out.tr hf3);clear hf3 CW M2 EN F2;rw [he];unfold zDx;simp only [if_true];have FW:=zz (jR M3.out q.name q.index (by have:=WF.out.name; unfold maxLen; omega) WF.out.index);rw [hd] at FW;unfold zFn at FW;clear hd;have dq:=fun j=>zB XQ.out j
  go_wp2_with fail
  refine FW.out.mono ?_;rintro e w4 ⟨rfl,hf4⟩;have X1:=zz ((hf4.block _ (zA X1.out) fun h=>h).trans X1.out);have XQ:=zz ((hf4.block _ (zA XQ.out) fun h=>h).trans XQ.out);have F4:=zz (F3.out.tr hf4);clear hf4 FW M3 F3 dq;have dq:=fun j=>zB XQ.out j
  have hmm:=@run_makeMap Tryz.prog;obtain ⟨w6,w7,w8,w9,r6,r7,r8,r9,l4,l5,l6,l7,lk,f6,f7,f8,f9⟩:=fourp w4 (some ⟨d.xb,0,none⟩);have XQ9:=(f9.block _ (zA XQ.out) fun h=>h).trans XQ.out;have q9:=zB XQ9 0;have q6:=zB ((f8.block _ (zA XQ.out) fun h=>h).trans XQ.out) 0;have F9:=zz (F4.out.tr f9);have X9:=(f9.block _ (zA X1.out) fun h=>h).trans X1.out;have l12:=lk 12 (by decide) (by decide);clear f6 f7 f8 f9 lk;go_wp2_with (refine wpList_load_row rfl 41 _ rfl w.heap.size rfl 41 _ (0,0) _ XQ9 Tryz.underlying41 rfl (by kernel_rfl) ?_)
  clear r6 r7 r8 r9 hmm dq q9 q6 XQ9 l4 l5 l6 l7 l12;refine (HR.out w9 F9.out).mono ?_;rintro e w10 hpp;have HPP:=zz hpp;obtain ⟨⟨ee,aa,st',en',mm,gg,ll,bv,tv9,pv9,hee,h1,h2,h3⟩,hkeep⟩:=HP.out _ _ _ F9.out hpp;subst hee;have L9:=zA X9;have X10:=(hkeep (w.heap.size+1) (Nat.le_succ _) L9).trans X9;have R10:=setRow_heap w10 (w.heap.size+1) _ (zS ee aa st' en' mm gg ll bv tv9 pv9) 31 (0,0) X10;have FE:=zz (zZ (S:=fun i=>i=w.heap.size+1) (Fr.refl _ w10) (.inl rfl) (zS ee aa st' en' mm gg ll bv tv9 pv9));have LL:=zz L9;clear hpp hkeep X9 L9 HR HP;go_wp2_with (refine yJ rfl _ _ rfl (w.heap.size+1) ee aa st' en' mm gg ll bv tv9 pv9 h1 h2 h3 rfl rfl _ X10 rfl ?_)
  try simp only [Exit.inBlock,Exit.then]
  refine bodyPost_ret (results_cell_row rfl _ _ (w.heap.size+1) 31 _ (0,0) _ rfl R10 Tryz.underlying31 rfl (by kernel_rfl)) rfl ?_;exact ⟨w9,w10,w.heap.size+1,F9.out,Nat.le_succ _,LL.out,HPP.out,FE.out⟩
theorem zAk {m:zG} (hM:zW w m) (q:Req) (rv kv tv:Value) (K:Nat→Prop) (ft lt:ByteArray) (fok lok:Bool) (hE:xM w q rv kv tv K ft lt fok lok) (hsz:(yQ ByteArray.empty q ft lt).size≤2000000000000000) (he:zy q ft lt fok lok=true) (now:Int) {fn:FuncId} (hfn:(q.kind=8∧fn=41)∨(q.kind=9∧fn=41)∨(q.kind=10∧fn=41)∨(q.kind=11∧fn=41)∨(q.kind=13∧fn=41)) (R:World→Ending→World→Prop) (hP:vC R w)
  (hR:∀w4,Fr (fun _=>False) w w4→Calls Tryz.prog fn #[.pointer (some ⟨m.mb,0,none⟩),.agg (zT q rv kv tv),.int .i64 now] w4 (R w4)):
  Calls Tryz.prog 12 #[.pointer (some ⟨m.mb,0,none⟩),.agg (zT q rv kv tv),.int .i64 now] w (Thru R w):=by
 rcases hfn with ⟨hk,rfl⟩ | ⟨hk,rfl⟩ | ⟨hk,rfl⟩ | ⟨hk,rfl⟩ | ⟨hk,rfl⟩
 all_goals
  obtain ⟨w1,hw1,f1,xq,x1⟩:=zBk w q rv kv tv;have X1:=zz x1;have M2:=zz (hM.old f1);have E2:=hE.keep f1;have EN:=zz E2;have CW:=zz (jH q rv kv tv K ft lt fok lok E2 hsz);have F2:=zz f1;have WF:=zz hE.wf;have HP:=zz hP;have HR:=zz hR;have LR:=zz (zA x1);clear f1 x1 hM hE E2 hsz hP hR;unfold zT at CW HR xq hw1 ⊢;unfold yE at hw1;rw [hk] at CW HR xq hw1 ⊢;have XQ:=zz xq;have xqe:=xq;rw [hw1] at xqe;clear xq;go_enter Tryz.func12,Tryz.ntmps12
  go_wp2_with (refine wpList_load_row rfl 41 _ rfl w.heap.size rfl 41 _ (0,0) _ xqe Tryz.underlying41 rfl (by kernel_rfl) ?_)
  rw [←hw1];clear hw1 xqe;refine CW.out.mono ?_;rintro e w3 ⟨rfl,hf3⟩;have M3:=zz (M2.out.old hf3);have X1:=zz ((hf3.block _ (zA X1.out) fun h=>h).trans X1.out);have XQ:=zz ((hf3.block _ (zA XQ.out) fun h=>h).trans XQ.out);have F3:=zz (F2.out.tr hf3);clear hf3 CW M2 EN F2;rw [he];unfold zDx;simp only [if_true];have FW:=zz (jR M3.out q.name q.index (by have:=WF.out.name; unfold maxLen; omega) WF.out.index);obtain ⟨fd,hfd⟩:∃fd,fd=zU m q.name q.index:=⟨_,rfl⟩;rw [←hfd] at FW;clear hfd;have hpv:∃pa,zFn fd=.pointer pa:=by cases fd <;> exact ⟨_,rfl⟩
  obtain ⟨pa,hpv⟩:=hpv;rw [hpv] at FW;clear hpv;have dq:=fun j=>zB XQ.out j
  go_wp2_with fail
  refine FW.out.mono ?_;rintro e w4 ⟨rfl,hf4⟩;have X1:=zz ((hf4.block _ (zA X1.out) fun h=>h).trans X1.out);have XQ:=zz ((hf4.block _ (zA XQ.out) fun h=>h).trans XQ.out);have F4:=zz (F3.out.tr hf4);clear hf4 FW M3 F3 dq;have dq:=fun j=>zB XQ.out j
  have hmm:=@run_makeMap Tryz.prog;obtain ⟨w6,w7,w8,w9,r6,r7,r8,r9,l4,l5,l6,l7,lk,f6,f7,f8,f9⟩:=fourp w4 pa;have XQ9:=(f9.block _ (zA XQ.out) fun h=>h).trans XQ.out;have q9:=zB XQ9 0;have q6:=zB ((f8.block _ (zA XQ.out) fun h=>h).trans XQ.out) 0;have F9:=zz (F4.out.tr f9);have X9:=(f9.block _ (zA X1.out) fun h=>h).trans X1.out;clear f6 f7 f8 f9 l4 l5 l6 l7;have l8:=lk 8 (by decide) (by decide);have l9:=lk 9 (by decide) (by decide);have l10:=lk 10 (by decide) (by decide);have l11:=lk 11 (by decide) (by decide);have l13:=lk 13 (by decide) (by decide);clear lk;go_wp2_with (refine wpList_load_row rfl 41 _ rfl w.heap.size rfl 41 _ (0,0) _ XQ9 Tryz.underlying41 rfl (by kernel_rfl) ?_)
  clear r6 r7 r8 r9 hmm dq q9 q6 XQ9 l8 l9 l10 l11 l13;refine (HR.out w9 F9.out).mono ?_;rintro e w10 hpp;have HPP:=zz hpp;obtain ⟨⟨ee,aa,st',en',mm,gg,ll,bv,tv9,pv9,hee,h1,h2,h3⟩,hkeep⟩:=HP.out _ _ _ F9.out hpp;subst hee;have L9:=zA X9;have X10:=(hkeep (w.heap.size+1) (Nat.le_succ _) L9).trans X9;have R10:=setRow_heap w10 (w.heap.size+1) _ (zS ee aa st' en' mm gg ll bv tv9 pv9) 31 (0,0) X10;have FE:=zz (zZ (S:=fun i=>i=w.heap.size+1) (Fr.refl _ w10) (.inl rfl) (zS ee aa st' en' mm gg ll bv tv9 pv9));have LL:=zz L9;clear hpp hkeep X9 L9 HR HP;go_wp2_with (refine yJ rfl _ _ rfl (w.heap.size+1) ee aa st' en' mm gg ll bv tv9 pv9 h1 h2 h3 rfl rfl _ X10 rfl ?_)
  try simp only [Exit.inBlock,Exit.then]
  refine bodyPost_ret (results_cell_row rfl _ _ (w.heap.size+1) 31 _ (0,0) _ rfl R10 Tryz.underlying31 rfl (by kernel_rfl)) rfl ?_;exact ⟨w9,w10,w.heap.size+1,F9.out,Nat.le_succ _,LL.out,HPP.out,FE.out⟩
end
end Go.Proofs.YtfdhofabgdkkkaaGreatDoor
