/- A part of the proof that what the machine is told keeps its bounds. -/
import Derived.Test.YtfdhofabgdkkkaaGreatDoorJ4
import Derived.Test.YtfdhofabgdkkkaaGreatDoorJ8
set_option maxHeartbeats 128000000
set_option maxRecDepth 100000
namespace Go.Proofs.YtfdhofabgdkkkaaGreatDoor
open Lib renaming hid→zz
open Go.RowKit Go.Fm Go.BigFrame Go.Shelf Go.Maps
set_option linter.unusedVariables false
set_option linter.unusedSimpArgs false
def yq (id parts:Int):Value:=.agg #[.int .i64 id,.int .i64 parts]
section
variable {w w':World} {tb mb:Nat} {next:Int} {L:List (ByteArray × Value)} {S:Nat→Prop}
structure uR (w:World) (tb mb:Nat) (next:Int) (L:List (ByteArray × Value)):Prop where
 b:w.heap[tb]?=some (.cells #[.int .i64 next,.map (some mb)] 142 (0,0))
 m:xT jF w mb L
 ne:tb≠mb
 el:∀r∈L,∃i p,r.2=yq i p
theorem uR.fr (h:uR w tb mb next L) (hf:Fr S w w') (h1:¬S tb) (h2:¬S mb):uR w' tb mb next L:=⟨(hf.block tb (zA h.b) h1).trans h.b,h.m.fr hf h2,h.ne,h.el⟩
theorem uR.old (h:uR w tb mb next L) (hf:Fr (fun _=>False) w w'):uR w' tb mb next L:=h.fr hf (fun h=>h) fun h=>h
theorem zTc (w:World):(zeroValue 158).run Tryz.prog w=.ok (yq 0 0) w:=by kernel_rfl
theorem uR.look (h:uR w tb mb next L) {k:ByteArray} (hk:k.size≤maxLen):(Instr.lookup 140 (.map (some mb)) (.string k) true).run Tryz.prog w=.ok (.tuple #[(zk L k).getD (yq 0 0),.bool (zk L k).isSome]) w:=
 h.m.look vz Tryz.underlying140 (zTc w) hk
theorem zVd (w:World):Calls Tryz.prog 30 #[] w fun e w'=>∃tb mb,e=.returned (.pointer (some ⟨tb,0,none⟩))∧uR w' tb mb 0 []∧w.heap.size≤tb∧w.heap.size≤mb∧Fr (fun _=>False) w w':=by
 have f1:=(Fr.same w).alloc (.map #[] 0);have m1:=xT.made jF w;have f2:=(Fr.same (w.alloc (.map #[] 0))).alloc (.cells #[.int .i64 0,.map (some w.heap.size)] 142);have x2:=zC (w.alloc (.map #[] 0)) (.cells #[.int .i64 0,.map (some w.heap.size)] 142);have hs:(w.alloc (.map #[] 0)).heap.size=w.heap.size+1:=by simp
 have HT:=zz (show uR ((w.alloc (.map #[] 0)).alloc (.cells #[.int .i64 0,.map (some w.heap.size)] 142)) (w.heap.size+1) w.heap.size 0 [] from ⟨by rw [←hs]; exact x2,m1.fr f2 (fun h=>h),by omega,fun r hr=>by cases hr⟩);have FF:=zz (f1.tr f2);have hmm:=@run_makeMap Tryz.prog;clear f1 m1 f2 x2 hs;go_enter Tryz.func30,Tryz.ntmps30
 go_wp2_with fail
 go_ret
 exact ⟨w.heap.size+1,w.heap.size,rfl,HT.out,by omega,Nat.le_refl _,FF.out⟩
theorem zGn (h:uR w tb mb next L) (k:ByteArray) (hk:k.size≤maxLen):Calls Tryz.prog 69 #[.pointer (some ⟨tb,0,none⟩),.string k] w fun e w'=>
  ((∃i p,zk L k=some (yq i p)∧e=.returned (.tuple #[.int .i64 i,.int .i64 p,.int .i64 0]))∨(zk L k=none∧e=.returned (.tuple #[.int .i64 0,.int .i64 0,.int .i64 6])))∧Fr (fun _=>False) w w':=by
 have H:=zz h;have c1:w.cell? ⟨tb,1,none⟩=some (.map (some mb)):=(zB h.b 1).trans rfl;have hlk:=h.look hk;have hel:=h.el;clear h;cases hg:zk L k with
 | none=>
  rw [hg] at hlk;dsimp only [Option.getD,Option.isSome] at hlk;unfold yq at hlk;have FF:=zz ((Fr.same w).alloc (.cells #[.int .i64 0,.int .i64 0] 158));go_enter Tryz.func69,Tryz.ntmps69
  go_wp2_with fail
  go_ret3
  exact ⟨.inr ⟨by trivial,rfl⟩,FF.out⟩
 | some v=>
  obtain ⟨i,p,rfl⟩:∃i p,v=yq i p:=hel _ (xH hg);rw [hg] at hlk;dsimp only [Option.getD,Option.isSome] at hlk;unfold yq at hlk;have FF:=zz ((Fr.same w).alloc (.cells #[.int .i64 i,.int .i64 p] 158));go_enter Tryz.func69,Tryz.ntmps69
  have x0:∀y:Lcl.InS (fun w'=>Fr (fun _=>False) (w.alloc (.cells #[.int .i64 i,.int .i64 p] 158)) w'),y.w.cell? ⟨w.heap.size,0,none⟩=some (.int .i64 i):=fun y=>y.h.cel (zD w _ 158 0)
  have x1:∀y:Lcl.InS (fun w'=>Fr (fun _=>False) (w.alloc (.cells #[.int .i64 i,.int .i64 p] 158)) w'),y.w.cell? ⟨w.heap.size,1,none⟩=some (.int .i64 p):=fun y=>y.h.cel (zD w _ 158 1)
  go_wp2_with fail
  generalize (w.alloc (.cells #[.int .i64 i,.int .i64 p] 158))=W at *;refine Lcl.wp_region_calm (by kernel_rfl) [(true,[0,2]),(false,[1,3]),(true,[4,5,6])] #[0,1,0,4,3,31,63] [0,1,2,3,4] 0 #[true,true,true,true,true,true,true] (by kernel_rfl) (by kernel_rfl) (by kernel_rfl) (fun w'=>Fr (fun _=>False) W w') (Fr.same W).drew (fun d c a v w h=>by cases d <;> exact h) ?_;simp only [Lcl.opsOf,List.map_cons,List.map_nil,List.getElem?_toArray,List.getElem?_cons_succ,List.getElem?_cons_zero,Option.getD_some];refine Lcl.wpCalm_t ?_;repeat (go_big_quiet_step (rfl))
  refine wpQuiet_nil ?_;refine Lcl.wpCalm_f ?_;repeat (go_big_quiet_step (rfl))
  refine wpQuiet_nil ?_;refine Lcl.wpCalm_t ?_;repeat (go_big_quiet_step (rfl))
  refine wpQuiet_nil ?_;refine Lcl.wpCalm_nil ?_;refine Lcl.wpG_run [] _ _ _ (by kernel_rfl) ?_;simp only [List.map_cons,List.map_nil,List.getElem?_toArray,List.getElem?_cons_succ,List.getElem?_cons_zero,Option.getD_some];go_wp2_with fail
  go_ret3
  exact ⟨.inl ⟨i,p,rfl,rfl⟩,FF.out.drew⟩
end
theorem xT.len {K:Type} [DecidableEq K] {q:KK K} {w:World} {b:Nat} {L:List (K × Value)} (h:xT q w b L) (mt ty:TypeId) (ht:∃e,Tryz.prog.underlying mt=some (.map q.kt e)):(Builtin.len_ #[mt] ty #[.map (some b)]).run Tryz.prog w=.ok (.int .i64 (L.length:Nat)) w:=by
 obtain ⟨h0,D,h1,h2,-⟩:=h;obtain ⟨e,ht⟩:=ht;rw [h1.len ht ty,h2]
section
variable {w w':World} {tb mb:Nat} {next:Int} {L:List (ByteArray × Value)} {S:Nat→Prop}
theorem zLa (h:uR w tb mb next L) (k:ByteArray) (parts:Int) (hk1:1≤k.size) (hk2:k.size≤100) (hp1:1≤parts) (hp2:parts≤16) (hg:zk L k=none) (hL:L.length < 20) (hn0:0≤next) (hn1:next < 1073741824):Calls Tryz.prog 70 #[.pointer (some ⟨tb,0,none⟩),.string k,.int .i64 parts] w fun e w'=>
  e=.returned (.tuple #[.int .i64 next,.int .i64 0])∧uR w' tb mb (next+1) (jb L k (yq next parts))∧Fr (fun i=>i=tb∨i=mb) w w':=by
 have H:=zz h;have c1:w.cell? ⟨tb,1,none⟩=some (.map (some mb)):=(zB h.b 1).trans rfl;have hlk:=h.look (k:=k) (by unfold maxLen; omega);rw [hg] at hlk;dsimp only [Option.getD,Option.isSome] at hlk;unfold yq at hlk;have hne:¬k.toList=[]:=fun e=>by
  rw [yv.2 e] at hk1;simp at hk1
 have hn5:k.toList.isEmpty=false:=by simpa using hne
 have n1:¬(100:Int) < (k.size:Int):=by omega
 have n2:¬parts < 1:=by omega
 have n3:¬(16:Int) < parts:=by omega
 have fa:=(Fr.same w).alloc (.cells #[.int .i64 0,.int .i64 0] 158);have HA:=zz (h.old fa);have FA:=zz fa;have hln:=HA.out.m.len 140 3 ⟨158,Tryz.underlying140⟩;have k1:=fa.cel c1;have k0:=fa.cel (show w.cell? ⟨tb,0,none⟩=some (.int .i64 next) from (zB h.b 0).trans rfl);have g1:decide ((20:Int)≤(L.length:Int))=false:=by simp; omega
 have g2:decide ((1073741824:Int)≤next)=false:=by simp; omega
 have hw:=H.out;have hput:uR w tb mb next L:=hw;have HN:=zz h.ne;clear h fa hput hw;go_enter Tryz.func70,Tryz.ntmps70
 go_wp2_with (at_mapUpdate; refine uJ vz _ rfl 140 158 Tryz.underlying140 (.tmp 60) (.tmp 61) (.tmp 64) rfl mb L rfl HA.out.m (by omega) k rfl (show k.size≤maxLen by unfold maxLen; omega) (yq next parts) rfl ?_)
 intro w6 hm6 hg6;have hfg:Fr (fun i=>some mb=some i) (w.alloc (.cells #[.int .i64 0,.int .i64 0] 158)) w6:=Fr.grown (Fr.refl _ _) hg6 fun x e=>.inl e
 have X6:=zz ((hfg.block tb (zA HA.out.b) (fun e=>HN.out (Option.some.inj e).symm)).trans HA.out.b);have fz6:=zd X6.out 0;have c6:w6.cell? ⟨tb,0,none⟩=some (.int .i64 next):=(zB X6.out 0).trans rfl;have hfs:Fr (fun i=>i=tb) w6 (w6.setCell ⟨tb,0,none⟩ (.int .i64 (next+1))):=Fr.setCell (S:=fun i=>i=tb) (p:=⟨tb,0,none⟩) (Fr.refl _ w6) (.inl rfl) _;have TE:=zz (show uR (w6.setCell ⟨tb,0,none⟩ (.int .i64 (next+1))) tb mb (next+1) (jb L k (yq next parts)) from ⟨by rw [zE X6.out]; rfl,hm6.fr hfs (fun e=>HN.out e.symm),HN.out,fun r hr=>by
  rcases List.mem_cons.1 hr with rfl | hr
  ·exact ⟨_,_,rfl⟩
  ·exact HA.out.el r (List.mem_filter.1 hr).1⟩)
 have FE:=zz (show Fr (fun i=>i=tb∨i=mb) w (w6.setCell ⟨tb,0,none⟩ (.int .i64 (next+1))) from ((FA.out.mono (S':=fun i=>i=tb∨i=mb) fun i h=>h.elim).trans hfg fun i e=>.inl (.inr (Option.some.inj e).symm)).trans hfs fun i e=>.inl (.inl e));clear hm6 hg6 hfg hfs k1 hlk hln;go_wp2_with fail
 go_ret2
 exact ⟨rfl,TE.out,FE.out⟩
end
def zTd (P:Prop) (w:World) (e:Ending) (w':World):Prop:=∃c:Bool,e=.returned (.bool c)∧(c=true↔P)∧Fr (fun _=>False) w w'
def zMw (b:Bat):Prop:=(b.prod= -1∧b.epoch= -1∧b.seq= -1)∨(b.prod≠-1∧(0≤b.prod∧b.prod≤1073741824)∧(0≤b.epoch∧b.epoch≤32768)∧0≤b.seq∧b.seq≤1073741824)
def ve (b:Bat):ByteArray:=zM b.base++zM b.span++zM b.prod++zM b.epoch++zM b.seq++zM b.recs.length
def xU (b:Bat):Nat→ByteArray
 | 0=>ve b
 | k+1=>match b.recs[k]? with
  | some r=>xU b k++vd r
  | none=>xU b k
def xN (b:Bat):ByteArray:=xU b b.recs.length
def kh (b:Bat):Nat→Int
 | 0=>-1
 | k+1=>match b.recs[k]? with
  | some r=>r.at'
  | none=>-1
structure RecIn (b:Bat) (k:Nat) (r:Rec):Prop where
 ok:jp r
 lt:r.at' < b.span
 rise:kh b k < r.at'
structure xO (b:Bat):Prop where
 base0:0≤b.base
 base1:b.base≤1099511627776
 span0:1≤b.span
 span1:b.span≤50
 who:zMw b
 len:b.recs.length≤50
 recs:∀k r,b.recs[k]?=some r→RecIn b k r
 body:(xN b).size≤60000
structure Nums (b:Bat):Prop where
 base:(Lit.int .i64 b.base).wf=true
 span:(Lit.int .i64 b.span).wf=true
 prod:(Lit.int .i64 b.prod).wf=true
 epoch:(Lit.int .i64 b.epoch).wf=true
 seq:(Lit.int .i64 b.seq).wf=true
 len:b.recs.length≤50
theorem zTe {b:Bat} (h0:0≤b.base) (h1:b.base≤1099511627776) (h2:1≤b.span) (h3:b.span≤50) (hw:zMw b) (hl:b.recs.length≤50):Nums b:=by
 unfold zMw at hw;refine ⟨?_,?_,?_,?_,?_,hl⟩;all_goals (simp [Lit.wf,IntKind.min,IntKind.max,IntKind.signed,IntKind.bits]; omega)
theorem jt (n lo hi:Int) (w:World) (h:lo≤n∧n≤hi):Calls Tryz.prog 196 #[.int .i64 n,.int .i64 lo,.int .i64 hi] w fun e w'=>e=.returned (.bool true)∧w'=w:=by
 obtain ⟨h1,h2⟩:=h;go_enter Tryz.func196,Tryz.ntmps196
 go_wp2_with fail
 go_ret
 exact ⟨rfl,rfl⟩
theorem vf (n lo hi:Int) (w:World) (h:¬(lo≤n∧n≤hi)):Calls Tryz.prog 196 #[.int .i64 n,.int .i64 lo,.int .i64 hi] w fun e w'=>e=.returned (.bool false)∧w'=w:=by
 have h:n < lo∨(lo≤n∧hi < n∧decide (n≤hi)=false):=by simp; omega
 rcases h with h | ⟨h1,h2,h3⟩
 all_goals
  go_enter Tryz.func196,Tryz.ntmps196
  go_wp2_with fail
  go_ret
  exact ⟨rfl,rfl⟩
theorem who_walk (b:Bat) (oa:Option Addr) (n cap:Nat) (w:World):
  Calls Tryz.prog 197 #[yP b (.slice oa n cap)] w (zTd (zMw b) w):=by
 obtain ⟨bbase,bspan,bprod,bepoch,bseq,brecs⟩:=b;unfold yP zMw;dsimp only;have hf:=(Fr.same w).alloc (.cells #[.int .i64 bbase,.int .i64 bspan,.int .i64 bprod,.int .i64 bepoch,.int .i64 bseq,.slice oa n cap] 35);by_cases hp:bprod= -1
 ·subst hp
  by_cases he:bepoch= -1
  ·subst he
   by_cases hq:bseq= -1
   ·subst hq
    go_enter Tryz.func197,Tryz.ntmps197
    go_wp2_with fail
    go_ret
    exact ⟨true,rfl,by simp,hf⟩
   ·have HQ:=zz hq
    go_enter Tryz.func197,Tryz.ntmps197
    go_wp2_with fail
    go_ret
    refine ⟨_,rfl,⟨fun h=>?_,fun h=>?_⟩,hf⟩
    ·have:=HQ.out; simp at h; omega
    ·have:=HQ.out; omega
  ·have HE:=zz he
   go_enter Tryz.func197,Tryz.ntmps197
   go_wp2_with fail
   go_ret
   exact ⟨false,rfl,⟨fun h=>(by cases h),fun h=>by have:=HE.out; omega⟩,hf⟩
 ·have HP:=zz hp
  go_enter Tryz.func197,Tryz.ntmps197
  go_wp2_with fail
  by_cases h1:0≤bprod∧bprod≤1073741824
  ·refine (jt _ _ _ _ h1).mono ?_
   rintro e w' ⟨rfl,rfl⟩;have H1:=zz h1;clear h1;go_wp2_with fail
   by_cases h2:0≤bepoch∧bepoch≤32768
   ·refine (jt _ _ _ _ h2).mono ?_
    rintro e w' ⟨rfl,rfl⟩;have H2:=zz h2;clear h2;go_wp2_with fail
    by_cases h3:0≤bseq∧bseq≤1073741824
    ·refine (jt _ _ _ _ h3).mono ?_
     rintro e w' ⟨rfl,rfl⟩;have H3:=zz h3;clear h3;go_wp2_with fail
     go_ret
     exact ⟨true,rfl,⟨fun _=>.inr ⟨HP.out,H1.out,H2.out,H3.out⟩,fun _=>rfl⟩,hf⟩
    ·refine (vf _ _ _ _ h3).mono ?_
     rintro e w' ⟨rfl,rfl⟩;have H3:=zz h3;clear h3;go_wp2_with fail
     go_ret
     exact ⟨false,rfl,⟨fun h=>(by cases h),fun h=>by have:=HP.out; have:=H3.out; omega⟩,hf⟩
   ·refine (vf _ _ _ _ h2).mono ?_
    rintro e w' ⟨rfl,rfl⟩;have H2:=zz h2;clear h2;go_wp2_with fail
    go_ret
    exact ⟨false,rfl,⟨fun h=>(by cases h),fun h=>by have:=HP.out; have:=H2.out; omega⟩,hf⟩
  ·refine (vf _ _ _ _ h1).mono ?_
   rintro e w' ⟨rfl,rfl⟩;have H1:=zz h1;clear h1;go_wp2_with fail
   go_ret
   exact ⟨false,rfl,⟨fun h=>(by cases h),fun h=>by have:=HP.out; have:=H1.out; omega⟩,hf⟩
def kD (b:Bat) (rv:Value):Obj:=.cells #[.int .i64 b.base,.int .i64 b.span,.int .i64 b.prod,.int .i64 b.epoch,.int .i64 b.seq,rv] 35 (0,0)
def zMx (w:World) (b:Bat) (e:Ending) (w':World):Prop:=∃(s:ByteArray) (c:Bool),e=.returned (.tuple #[.string s,.bool c])∧((c=true∧xO b∧s=xN b)∨(c=false∧¬xO b))∧Fr (fun _=>False) w w'
theorem body_bad {w w':World} {b:Bat} (h:¬xO b) (hf:Fr (fun _=>False) w w') (s:ByteArray):zMx w b (.returned (.tuple #[.string s,.bool false])) w':=⟨s,false,rfl,.inr ⟨rfl,h⟩,hf⟩
theorem zJa (K:Nat→Prop) (b:Bat) (v:Value) (w:World) (h:xE K w v b.recs):
  Calls Tryz.prog 129 #[yP b v] w (zMx w b):=by
 obtain ⟨oa,cap,rfl,h⟩:=h;have H:=zz h;have OB:=zz (zC w (kD b (.slice oa b.recs.length cap)));have FA:=zz ((Fr.same w).alloc (kD b (.slice oa b.recs.length cap)));clear h;have BAD:=zz (fun hn w' hf s=>@body_bad w w' b hn hf s);have hnat:Hid (∀hn:b.recs.length≤50,b.recs.length≤50):=zz fun h=>h
 unfold yP;go_enter Tryz.func129,Tryz.ntmps129
 go_wp2_with fail
 by_cases h1:0≤b.base∧b.base≤1099511627776
 ·refine (jt _ _ _ _ h1).mono ?_
  rintro e w' ⟨rfl,rfl⟩;have H1:=zz h1;clear h1;go_wp2_with fail
  by_cases h2:1≤b.span∧b.span≤50
  ·refine (jt _ _ _ _ h2).mono ?_
   rintro e w' ⟨rfl,rfl⟩;have H2:=zz h2;clear h2;go_wp2_with fail
   refine (who_walk b _ _ _ _).mono ?_;rintro e w2 ⟨c,rfl,hc,hf2⟩;have HC:=zz hc;have F2:=zz (FA.out.tr hf2);have OB2:=zz ((hf2.block _ (zA OB.out) fun h=>h).trans OB.out);clear hc hf2 FA OB;cases c with
   | false=>
    have hno:¬xO b:=fun h=>by have:=HC.out.2 h.who; cases this
    have HNO:=zz hno;clear HC hno;go_wp2_with fail
    go_ret2
    exact BAD.out HNO.out _ F2.out _
   | true=>
    have HWHO:=zz (HC.out.1 rfl);clear HC;have d5:=(zB OB2.out 5).trans rfl;simp [kD] at d5;rcases Nat.lt_or_ge 50 b.recs.length with hbig | hlen
    ·go_wp2_with fail
     go_ret2
     exact BAD.out (fun h=>by have:=h.len; omega) _ F2.out _
    ·have n5:¬(50:Int) < (b.recs.length:Int):=by omega
     have d0:w2.cell? ⟨w.heap.size,0,none⟩=some (.int .i64 b.base):=(zB OB2.out 0).trans rfl;have d1:w2.cell? ⟨w.heap.size,1,none⟩=some (.int .i64 b.span):=(zB OB2.out 1).trans rfl;have d2:w2.cell? ⟨w.heap.size,2,none⟩=some (.int .i64 b.prod):=(zB OB2.out 2).trans rfl;have d3:w2.cell? ⟨w.heap.size,3,none⟩=some (.int .i64 b.epoch):=(zB OB2.out 3).trans rfl;have d4:w2.cell? ⟨w.heap.size,4,none⟩=some (.int .i64 b.seq):=(zB OB2.out 4).trans rfl;have NU:=zz (zTe H1.out.1 H1.out.2 H2.out.1 H2.out.2 HWHO.out hlen);have s0:=zb NU.out.base;have s1:=zb NU.out.span;have s2:=zb NU.out.prod;have s3:=zb NU.out.epoch;have s4:=zb NU.out.seq;have s5:=zb (vT (show b.recs.length≤1000000000 by omega));have HH:Hid (xU b 0=zM b.base++zM b.span++zM b.prod++zM b.epoch++zM b.seq++zM b.recs.length):=zz rfl;have HS0:Hid ((xU b 0).size≤3000):=zz (by rw [HH.out,ByteArray.size_append,ByteArray.size_append,ByteArray.size_append,ByteArray.size_append,ByteArray.size_append]; omega);have HLEN:=zz hlen;have i0:∀w:World,(Instr.index 303 (.agg #[.int .i64 b.base,.int .i64 b.span,.int .i64 b.prod,.int .i64 b.epoch,.int .i64 b.seq,.int .i64 b.recs.length]) (.int .i64 0)).run Tryz.prog w=.ok (.int .i64 b.base) w:=fun _=>by kernel_rfl
     have i1:∀w:World,(Instr.index 303 (.agg #[.int .i64 b.base,.int .i64 b.span,.int .i64 b.prod,.int .i64 b.epoch,.int .i64 b.seq,.int .i64 b.recs.length]) (.int .i64 1)).run Tryz.prog w=.ok (.int .i64 b.span) w:=fun _=>by kernel_rfl
     have i2:∀w:World,(Instr.index 303 (.agg #[.int .i64 b.base,.int .i64 b.span,.int .i64 b.prod,.int .i64 b.epoch,.int .i64 b.seq,.int .i64 b.recs.length]) (.int .i64 2)).run Tryz.prog w=.ok (.int .i64 b.prod) w:=fun _=>by kernel_rfl
     have i3:∀w:World,(Instr.index 303 (.agg #[.int .i64 b.base,.int .i64 b.span,.int .i64 b.prod,.int .i64 b.epoch,.int .i64 b.seq,.int .i64 b.recs.length]) (.int .i64 3)).run Tryz.prog w=.ok (.int .i64 b.epoch) w:=fun _=>by kernel_rfl
     have i4:∀w:World,(Instr.index 303 (.agg #[.int .i64 b.base,.int .i64 b.span,.int .i64 b.prod,.int .i64 b.epoch,.int .i64 b.seq,.int .i64 b.recs.length]) (.int .i64 4)).run Tryz.prog w=.ok (.int .i64 b.seq) w:=fun _=>by kernel_rfl
     have i5:∀w:World,(Instr.index 303 (.agg #[.int .i64 b.base,.int .i64 b.span,.int .i64 b.prod,.int .i64 b.epoch,.int .i64 b.seq,.int .i64 b.recs.length]) (.int .i64 5)).run Tryz.prog w=.ok (.int .i64 b.recs.length) w:=fun _=>by kernel_rfl
     clear hlen;go_wp2_with fail
     clear d0 d1 d2 d3 d4 d5;refine wp_loop_rounds 7 ?_;rw [rounds_succ];go_wp2_with fail
     refine (xF _ _ NU.out.base).mono ?_;rintro e wp0 ⟨rfl,hfp⟩;have F3:=zz (F2.out.tr hfp);have OB3:=zz ((hfp.block _ (zA OB2.out) fun h=>h).trans OB2.out);clear hfp F2 OB2;go_wp2_with fail
     rw [rounds_succ];go_wp2_with fail
     refine (xF _ _ NU.out.span).mono ?_;rintro e wp1 ⟨rfl,hfp⟩;have F4:=zz (F3.out.tr hfp);have OB4:=zz ((hfp.block _ (zA OB3.out) fun h=>h).trans OB3.out);clear hfp F3 OB3;go_wp2_with fail
     rw [rounds_succ];go_wp2_with fail
     refine (xF _ _ NU.out.prod).mono ?_;rintro e wp2 ⟨rfl,hfp⟩;have F5:=zz (F4.out.tr hfp);have OB5:=zz ((hfp.block _ (zA OB4.out) fun h=>h).trans OB4.out);clear hfp F4 OB4;go_wp2_with fail
     rw [rounds_succ];go_wp2_with fail
     refine (xF _ _ NU.out.epoch).mono ?_;rintro e wp3 ⟨rfl,hfp⟩;have F6:=zz (F5.out.tr hfp);have OB6:=zz ((hfp.block _ (zA OB5.out) fun h=>h).trans OB5.out);clear hfp F5 OB5;go_wp2_with fail
     rw [rounds_succ];go_wp2_with fail
     refine (xF _ _ NU.out.seq).mono ?_;rintro e wp4 ⟨rfl,hfp⟩;have F7:=zz (F6.out.tr hfp);have OB7:=zz ((hfp.block _ (zA OB6.out) fun h=>h).trans OB6.out);clear hfp F6 OB6;go_wp2_with fail
     rw [rounds_succ];go_wp2_with fail
     refine (xF _ _ (vT (show b.recs.length≤1000000000 from Nat.le_trans HLEN.out (by decide)))).mono ?_;rintro e wp5 ⟨rfl,hfp⟩;have F8:=zz (F7.out.tr hfp);have OB8:=zz ((hfp.block _ (zA OB7.out) fun h=>h).trans OB7.out);clear hfp F7 OB7;go_wp2_with fail
     rw [rounds_succ];clear i0 i1 i2 i3 i4 i5 s0 s1 s2 s3 s4 s5;generalize hW8:wp5=W8 at *;clear hW8;have D5:W8.cell? ⟨w.heap.size,5,none⟩=some (.slice oa b.recs.length cap):=(zB OB8.out 5).trans rfl;go_wp2_with fail
     have hT:({ data:=#[] } :ByteArray)++zM b.base++zM b.span++zM b.prod++zM b.epoch++zM b.seq++zM b.recs.length=xU b 0:=by
      rw [HH.out,show (⟨#[]⟩:ByteArray)++zM b.base=zM b.base from ByteArray.empty_append]
     rw [hT];clear D5 hT HH;go_loopw [4,7,58] (fun sv lv iv wr=>∃k:Nat,iv=.int .i64 k∧k≤b.recs.length∧sv=.string (xU b k)∧lv=.int .i64 (kh b k)∧(xU b k).size≤3000+24000 * k∧(∀j r,j < k→b.recs[j]?=some r→RecIn b j r)∧Fr (fun _=>False) W8 wr) (fun _ _ iv _=>b.recs.length - (intOf iv).toNat)
     case atStart=>exact ⟨0,rfl,Nat.zero_le _,rfl,rfl,HS0.out,fun j r hj=>by omega,Fr.same _⟩
     case round=>
      obtain ⟨k,rfl,hk,rfl,rfl,hsz,hok,hf⟩:=hrel;have F:=zz (F8.out.tr hf);have HOK:=zz hok;have OBr:=zz ((hf.block _ (zA OB8.out) fun h=>h).trans OB8.out);have d1:wr.cell? ⟨w.heap.size,1,none⟩=some (.int .i64 b.span):=(zB OBr.out 1).trans rfl;have FW:=zz hf;clear hf hok;rcases Nat.lt_or_ge k b.recs.length with hlt | hge
      ·obtain ⟨x,hx⟩:=zH hlt
       obtain ⟨a,hv,rfl,-,hcx,hhx⟩:=H.out k x hx;have hcx2:=hcx.to (F.out.block _ hcx.lt fun h=>h);have hh2:=hhx.old F.out;obtain ⟨ha,hcap,rfl,-⟩:=hhx;obtain ⟨e0,e1,e2,e3,e4,e5,e6⟩:=hcx2;have HX:=zz hx;have OX:=zz (zC wr (js x (.slice ha x.hs.length hcap)));have FX0:=zz ((Fr.same wr).alloc (js x (.slice ha x.hs.length hcap)));have HHX:=zz (hh2.old FX0.out);clear hcx hh2 hx;go_wp2_with fail
       clear e0 e1 e2 e3 e4 e5 e6;by_cases hro:jp x
       ·refine (zMv K x _ _ HHX.out hro).mono ?_
        rintro e wy ⟨rfl,hfy⟩;have hes:=zVa hro;have HRO:=zz hro;have FY:=zz (F.out.tr (FX0.out.tr hfy));have FYW:=zz (FW.out.tr (FX0.out.tr hfy));have e0:wy.cell? ⟨wr.heap.size,0,none⟩=some (.int .i64 x.at'):=hfy.cel ((zB OX.out 0).trans rfl);have d1:wy.cell? ⟨w.heap.size,1,none⟩=some (.int .i64 b.span):=(FX0.out.tr hfy).cel ((zB OBr.out 1).trans rfl);clear hro hfy;by_cases hl:kh b k < x.at'
        ·by_cases hsp:x.at' < b.span
         ·have q1:¬x.at'≤kh b k:=by omega
          have q2:¬b.span≤x.at':=by omega
          have HTO:Hid (xU b (k+1)=xU b k++vd x∧kh b (k+1)=x.at'):=zz (by simp [xU,kh,HX.out]);have HIN:Hid (RecIn b k x):=zz ⟨HRO.out,hsp,hl⟩;clear hl hsp;go_wp2_with fail
          clear e0 d1;go_roundw
          case rel=>
           refine ⟨k+1,by go_num,by omega,by rw [HTO.out.1],by rw [HTO.out.2],by rw [HTO.out.1,ByteArray.size_append]; omega,?_,FYW.out⟩;intro j r hj hjr;rcases Nat.lt_succ_iff_lt_or_eq.1 hj with h9 | h9
           ·exact HOK.out j r h9 hjr
           ·subst h9
            have:=HX.out.symm.trans hjr
            injection this with this
            subst this;exact HIN.out
          case measure=>simp [intOf]; omega
         ·have q1:¬x.at'≤kh b k:=by omega
          have q2:b.span≤x.at':=by omega
          have hno:¬xO b:=fun h=>hsp (h.recs k x HX.out).lt
          have HNO:=zz hno;clear hno hl hsp;go_wp2_with fail
          go_ret2
          exact BAD.out HNO.out _ FY.out _
        ·have q1:x.at'≤kh b k:=by omega
         have hno:¬xO b:=fun h=>hl (h.recs k x HX.out).rise
         have HNO:=zz hno;clear hno hl;go_wp2_with fail
         go_ret2
         exact BAD.out HNO.out _ FY.out _
       ·refine (zVc K x _ _ HHX.out hro).mono ?_
        rintro e wy ⟨rfl,hfy⟩;have hno:¬xO b:=fun h=>hro (h.recs k x HX.out).ok
        have HNO:=zz hno;have FY:=zz (F.out.tr (FX0.out.tr hfy));clear hno hro hfy;go_wp2_with fail
        go_ret2
        exact BAD.out HNO.out _ FY.out _
      ·have hkl:k=b.recs.length:=by omega
       subst hkl;have hall:=HOK.out;have HB:Hid ((xN b).size≤60000→xO b):=zz fun h=>⟨H1.out.1,H1.out.2,H2.out.1,H2.out.2,HWHO.out,HLEN.out,fun k r hr=>hall k r (List.getElem?_eq_some_iff.1 hr).1 hr,h⟩
       have hEq:xN b=xU b b.recs.length:=rfl;clear hall;by_cases hfit:(xU b b.recs.length).size≤60000
       ·have HF:=zz (HB.out hfit)
        have hfi:((xU b b.recs.length).size:Int)≤60000:=by omega
        clear hfit;go_wp2_with fail
        go_ret2
        exact ⟨_,true,rfl,.inl ⟨rfl,HF.out,rfl⟩,F.out⟩
       ·have hno:¬xO b:=fun h=>hfit h.body
        have HNO:=zz hno;have hfi:¬((xU b b.recs.length).size:Int)≤60000:=by omega
        have hfd:decide (((xU b b.recs.length).size:Int)≤60000)=false:=by simpa using hfi
        clear hno hfit;go_wp2_with fail
        go_ret2
        refine ⟨xU b b.recs.length,false,?_,.inr ⟨rfl,HNO.out⟩,F.out⟩;first
         | rfl
         | (show Ending.returned (Value.tuple #[.string (xU b b.recs.length),.bool (decide (((xU b b.recs.length).size:Int)≤60000))])=_
            rw [hfd])
  ·refine (vf _ _ _ _ h2).mono ?_
   rintro e w' ⟨rfl,rfl⟩;have H2:=zz h2;clear h2;go_wp2_with fail
   go_ret2
   exact BAD.out (fun h=>H2.out ⟨h.span0,h.span1⟩) _ FA.out _
 ·refine (vf _ _ _ _ h1).mono ?_
  rintro e w' ⟨rfl,rfl⟩;have H1:=zz h1;clear h1;go_wp2_with fail
  go_ret2
  exact BAD.out (fun h=>H1.out ⟨h.base0,h.base1⟩) _ FA.out _
def zQd (w:World) (b:Bat) (e:Ending) (w':World):Prop:=∃c:Int,e=.returned (.int .i64 c)∧((c=0∧xO b)∨(c=1∧¬xO b))∧Fr (fun _=>False) w w'
theorem zMy (K:Nat→Prop) (b:Bat) (v:Value) (w:World) (h:xE K w v b.recs):Calls Tryz.prog 202 #[yP b v] w (zQd w b):=by
 have HB:=zz (zJa K b v _ (h.old ((Fr.same w).alloc (kD b v))));have FA:=zz ((Fr.same w).alloc (kD b v));clear h;unfold yP kD at *;go_enter Tryz.func202,Tryz.ntmps202
 go_wp2_with fail
 refine HB.out.mono ?_;rintro e w2 ⟨s,c,rfl,hc,hf⟩;have F:=zz (FA.out.tr hf);clear hf HB;rcases hc with ⟨rfl,h1,-⟩ | ⟨rfl,h1⟩
 ·have HH:=zz h1
  clear h1;go_wp2_with fail
  go_ret
  exact ⟨0,rfl,.inl ⟨rfl,HH.out⟩,F.out⟩
 ·have HH:=zz h1
  clear h1;go_wp2_with fail
  go_ret
  exact ⟨1,rfl,.inr ⟨rfl,HH.out⟩,F.out⟩
theorem jG (n:Nat):(zGj n).size=4:=rfl
def ye (b:Bat):ByteArray:=zGj (xN b).size++zGj (zDp (xN b)).toNat++xN b
def BEncPost (w:World) (b:Bat) (e:Ending) (w':World):Prop:=((xO b∧e=.returned (.tuple #[.string (ye b),.int .i64 0]))∨(¬xO b∧e=.returned (.tuple #[.string ByteArray.empty,.int .i64 1])))∧Fr (fun _=>False) w w'
theorem kE (K:Nat→Prop) (b:Bat) (v:Value) (w:World) (h:xE K w v b.recs) (hs:zc w):Calls Tryz.prog 75 #[yP b v] w (BEncPost w b):=by
 have HB:=zz (zJa K b v _ (h.old ((Fr.same w).alloc (kD b v))));have FA:=zz ((Fr.same w).alloc (kD b v));have HS:=zz hs;clear h hs;unfold yP kD at *;go_enter Tryz.func75,Tryz.ntmps75
 go_wp2_with fail
 refine HB.out.mono ?_;rintro e w2 ⟨s,c,rfl,hc,hf⟩;have F:=zz (FA.out.tr hf);clear hf HB;rcases hc with ⟨rfl,h1,rfl⟩ | ⟨rfl,h1⟩
 ·have HH:=zz h1
  have hsz:=h1.body;have s1:=jG (xN b).size;have s2:=jG (zDp (xN b)).toNat;clear h1;have hsum:=zKz (xN b);obtain ⟨m,hm⟩:∃m:Nat,zDp (xN b)=m:=⟨(zDp (xN b)).toNat,by omega⟩;have HM:=zz hm;go_wp2_with fail
  refine (zGk _ (by omega) _).mono ?_;rintro e w3 ⟨rfl,hf3⟩;have F3:=zz (F.out.tr hf3);clear hf3;go_wp2_with fail
  refine (zMu _ _ (by unfold maxLen; omega) (HS.out.old F3.out)).mono ?_;rintro e w4 ⟨rfl,hf4⟩;have F4:=zz (F3.out.tr hf4);clear hf4;rw [hm];have hml:m < 4294967296:=by omega
  have hmw:IntKind.i64.wrap (m:Int)=m:=by
   simp only [IntKind.wrap_i64];omega
  have HT:Hid (ye b=zGj (xN b).size++zGj m++xN b):=zz (by unfold ye; rw [HM.out]; rfl);have s2:=jG m;clear hm hsum;go_wp2_with fail
  refine (zGk m hml _).mono ?_;rintro e w5 ⟨rfl,hf5⟩;have F5:=zz (F4.out.tr hf5);clear hf5;go_wp2_with fail
  go_ret2
  exact ⟨.inl ⟨HH.out,by rw [HT.out]; rfl⟩,F5.out⟩
 ·have HH:=zz h1
  clear h1;go_wp2_with fail
  go_ret2
  exact ⟨.inr ⟨HH.out,rfl⟩,F.out⟩
end Go.Proofs.YtfdhofabgdkkkaaGreatDoor
