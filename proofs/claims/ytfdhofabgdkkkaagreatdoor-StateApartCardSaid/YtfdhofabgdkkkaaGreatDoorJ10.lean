/- A part of the proof that what the machine is told keeps its bounds. -/
import Derived.Test.YtfdhofabgdkkkaaGreatDoorJ9
set_option maxHeartbeats 128000000
set_option maxRecDepth 100000
namespace Go.Proofs.YtfdhofabgdkkkaaGreatDoor
open Lib renaming hid→zz
open Go.RowKit Go.Fm Go.BigFrame Go.Shelf Go.Maps
set_option linter.unusedVariables false
set_option linter.unusedSimpArgs false
theorem uK (n lo hi:Int) (w:World) (h:lo≤n∧n≤hi):Calls Tryz.prog 200 #[.int .i64 n,.int .i64 lo,.int .i64 hi] w fun e w'=>e=.returned (.bool true)∧w'=w:=by
 obtain ⟨h1,h2⟩:=h;go_enter Tryz.func200,Tryz.ntmps200
 go_wp2_with fail
 go_ret
 exact ⟨rfl,rfl⟩
theorem uo (n lo hi:Int) (w:World) (h:¬(lo≤n∧n≤hi)):Calls Tryz.prog 200 #[.int .i64 n,.int .i64 lo,.int .i64 hi] w fun e w'=>e=.returned (.bool false)∧w'=w:=by
 have h:n < lo∨(lo≤n∧hi < n∧decide (n≤hi)=false):=by simp; omega
 rcases h with h | ⟨h1,h2,h3⟩
 all_goals
  go_enter Tryz.func200,Tryz.ntmps200
  go_wp2_with fail
  go_ret
  exact ⟨rfl,rfl⟩
theorem zLb (n lo hi:Int) (w:World):Calls Tryz.prog 200 #[.int .i64 n,.int .i64 lo,.int .i64 hi] w fun e w'=>e=.returned (.bool (decide (lo≤n∧n≤hi)))∧w'=w:=by
 by_cases h:lo≤n∧n≤hi
 ·rw [decide_eq_true h]; exact uK n lo hi w h
 ·rw [decide_eq_false h]; exact uo n lo hi w h
def zQe (b:Bat):Prop:=(0≤b.prod∧b.prod≤1073741824)∧(0≤b.epoch∧b.epoch≤32768)∧(0≤b.seq∧b.seq≤1073741824)∧(1≤b.span∧b.span≤50)∧(0≤b.base∧b.base≤1099511627776)
theorem zJb (b:Bat) (oa:Option Addr) (n cap:Nat) (w:World):
  Calls Tryz.prog 132 #[yP b (.slice oa n cap)] w (zTd (zQe b) w):=by
 obtain ⟨bbase,bspan,bprod,bepoch,bseq,brecs⟩:=b;unfold yP zQe;dsimp only;have hf:=(Fr.same w).alloc (.cells #[.int .i64 bbase,.int .i64 bspan,.int .i64 bprod,.int .i64 bepoch,.int .i64 bseq,.slice oa n cap] 35);have FF:=zz hf;clear hf;by_cases h1:0≤bprod∧bprod≤1073741824
 ·go_enter Tryz.func132,Tryz.ntmps132
  go_wp2_with fail
  refine (uK _ _ _ _ h1).mono ?_;rintro e w' ⟨rfl,rfl⟩;by_cases h2:0≤bepoch∧bepoch≤32768
  ·go_wp2_with fail
   refine (uK _ _ _ _ h2).mono ?_;rintro e w' ⟨rfl,rfl⟩;by_cases h3:0≤bseq∧bseq≤1073741824
   ·go_wp2_with fail
    refine (uK _ _ _ _ h3).mono ?_;rintro e w' ⟨rfl,rfl⟩;by_cases h4:1≤bspan∧bspan≤50
    ·go_wp2_with fail
     refine (uK _ _ _ _ h4).mono ?_;rintro e w' ⟨rfl,rfl⟩;go_wp2_with fail
     refine (zLb _ _ _ _).mono ?_;rintro e w' ⟨rfl,rfl⟩;go_wp2_with fail
     go_ret
     refine ⟨_,rfl,⟨fun h=>⟨h1,h2,h3,h4,by simpa using h⟩,fun h=>by simpa using h.2.2.2.2⟩,FF.out⟩
    ·go_wp2_with fail
     refine (uo _ _ _ _ h4).mono ?_;rintro e w' ⟨rfl,rfl⟩;go_wp2_with fail
     go_ret
     exact ⟨false,rfl,⟨(fun h=>by cases h),fun h=>absurd h.2.2.2.1 h4⟩,FF.out⟩
   ·go_wp2_with fail
    refine (uo _ _ _ _ h3).mono ?_;rintro e w' ⟨rfl,rfl⟩;go_wp2_with fail
    go_ret
    exact ⟨false,rfl,⟨(fun h=>by cases h),fun h=>absurd h.2.2.1 h3⟩,FF.out⟩
  ·go_wp2_with fail
   refine (uo _ _ _ _ h2).mono ?_;rintro e w' ⟨rfl,rfl⟩;go_wp2_with fail
   go_ret
   exact ⟨false,rfl,⟨(fun h=>by cases h),fun h=>absurd h.2.1 h2⟩,FF.out⟩
 ·go_enter Tryz.func132,Tryz.ntmps132
  go_wp2_with fail
  refine (uo _ _ _ _ h1).mono ?_;rintro e w' ⟨rfl,rfl⟩;go_wp2_with fail
  go_ret
  exact ⟨false,rfl,⟨(fun h=>by cases h),fun h=>absurd h.1 h1⟩,FF.out⟩
def jL (e:Int) (r:List Int) (f c:Int):List Value:=.int .i64 e::(r.map (fun n=>.int .i64 n)++ [.int .i64 f,.int .i64 c])
structure xc (w:World) (hb:Nat) (e:Int) (r:List Int) (f c:Nat):Prop where
 b:w.heap[hb]?=some (.cells (jL e r f c).toArray 255 (0,0))
 len:r.length=15
 f5:f < 5
 c5:c≤5
section
variable {w w':World} {hb:Nat} {ep:Int} {r:List Int} {f c:Nat} {S:Nat→Prop}
theorem xc.fr (h:xc w hb ep r f c) (hf:Fr S w w') (h1:¬S hb):xc w' hb ep r f c:=⟨(hf.block hb (zA h.b) h1).trans h.b,h.len,h.f5,h.c5⟩
theorem xc.old (h:xc w hb ep r f c) (hf:Fr (fun _=>False) w w'):xc w' hb ep r f c:=h.fr hf fun h=>h
theorem xc.cell (h:xc w hb ep r f c) (k:Nat) {v:Value} (hv:(jL ep r f c)[k]?=some v):w.cell? ⟨hb,k,none⟩=some v:=by
 unfold World.cell?;rw [h.b];simpa using hv
theorem xc.first (h:xc w hb ep r f c):w.cell? ⟨hb,16,none⟩=some (.int .i64 f):=h.cell 16 (by
 unfold jL;rw [List.getElem?_cons_succ,List.getElem?_append_right (by rw [List.length_map,h.len]; omega),List.length_map,h.len];rfl)
theorem xc.count (h:xc w hb ep r f c):w.cell? ⟨hb,17,none⟩=some (.int .i64 c):=h.cell 17 (by
 unfold jL;rw [List.getElem?_cons_succ,List.getElem?_append_right (by rw [List.length_map,h.len]; omega),List.length_map,h.len];rfl)
theorem xc.epoch (h:xc w hb ep r f c):w.cell? ⟨hb,0,none⟩=some (.int .i64 ep):=h.cell 0 rfl
theorem xc.ring (h:xc w hb ep r f c) {k:Nat} {n:Int} (hn:r[k]?=some n):w.cell? ⟨hb,1+k,none⟩=some (.int .i64 n):=h.cell (1+k) (by
 have hk:=(List.getElem?_eq_some_iff.1 hn).1;unfold jL;rw [Nat.add_comm,List.getElem?_cons_succ,List.getElem?_append_left (by rw [List.length_map]; exact hk),List.getElem?_map,hn];rfl)
theorem zCi (h:xc w hb ep r f c) (i:Nat) (hi:i≤5):Calls Tryz.prog 134 #[.pointer (some ⟨hb,0,none⟩),.int .i64 i] w fun e w'=>e=.returned (.pointer (some ⟨hb,1+(f+i) % 5 * 3,none⟩))∧Fr (fun _=>False) w w':=by
 have z0:∀y:Lcl.InS (fun w'=>Fr (fun _=>False) w w'),y.w.cell? ⟨hb,16,none⟩=some (.int .i64 f):=fun y=>y.h.cel h.first
 have f5:=h.f5;clear h;go_enter Tryz.func134,Tryz.ntmps134
 go_wp2_with fail
 refine Lcl.wp_region_calm (by kernel_rfl) [(true,[0,1,2,3,5,8,9]),(false,[4]),(true,[6,7,10,11])] #[0,0,2,6,14,0,62,126,1,257,1023,2047] [0,1,2,3,4,5,8,9] 0 #[true,true,true,true,true,true,true,true,true,true,true,true] (by kernel_rfl) (by kernel_rfl) (by kernel_rfl) (fun w'=>Fr (fun _=>False) w w') (Fr.same w).drew (fun d c a v w h=>by cases d <;> exact h) ?_;simp only [Lcl.opsOf,List.map_cons,List.map_nil,List.getElem?_toArray,List.getElem?_cons_succ,List.getElem?_cons_zero,Option.getD_some];refine Lcl.wpCalm_t ?_;repeat (go_big_quiet_step (rfl))
 refine wpQuiet_nil ?_;refine Lcl.wpCalm_f ?_;repeat (go_big_quiet_step (rfl))
 refine wpQuiet_nil ?_;refine Lcl.wpCalm_t ?_;repeat (go_big_quiet_step (rfl))
 refine wpQuiet_nil ?_;refine Lcl.wpCalm_nil ?_;refine Lcl.wpG_run [] _ _ _ (by kernel_rfl) ?_;simp only [List.map_cons,List.map_nil,List.getElem?_toArray,List.getElem?_cons_succ,List.getElem?_cons_zero,Option.getD_some];go_wp2_with fail
 go_ret
 exact ⟨rfl,(Fr.same w).drew⟩
end
section
variable {w w':World} {hb:Nat} {ep:Int} {r:List Int} {f c:Nat} {S:Nat→Prop}
def xI (r:List Int) (f i k:Nat):Int:=r.getD ((f+i) % 5 * 3+k) 0
def zEp (r:List Int) (f c:Nat):Int:=if c=0 then 0 else xI r f (c - 1) 0+xI r f (c - 1) 2
theorem xc.at' (h:xc w hb ep r f c) (i k:Nat) (hk:k < 3):w.cell? ⟨hb,1+(f+i) % 5 * 3+k,none⟩=some (.int .i64 (xI r f i k)):=by
 have h1:(f+i) % 5 < 5:=Nat.mod_lt _ (by omega);have h2:=h.len;obtain ⟨n,hn⟩:=zH (show (f+i) % 5 * 3+k < r.length by omega);have h3:=h.ring hn;unfold xI;rw [List.getD_eq_getElem?_getD,hn,Nat.add_assoc];exact h3
theorem zQf (h:xc w hb ep r f c) (hr:∀i,0≤xI r f i 0∧xI r f i 0≤1073741824∧0≤xI r f i 2∧xI r f i 2≤50):Calls Tryz.prog 135 #[.pointer (some ⟨hb,0,none⟩)] w fun e w'=>e=.returned (.int .i64 (zEp r f c))∧Fr (fun _=>False) w w':=by
 have c0:=h.count;have H:=zz h;have c5:=h.c5;unfold zEp;by_cases hc:c=0
 ·subst hc
  rw [if_pos rfl];clear h;go_enter Tryz.func135,Tryz.ntmps135
  go_wp2_with fail
  go_ret
  exact ⟨rfl,Fr.same w⟩
 ·rw [if_neg hc]
  obtain ⟨i,rfl⟩:∃i,c=i+1:=⟨c - 1,by omega⟩;rw [Nat.add_sub_cancel];obtain ⟨hr1,hr2,hr3,hr4⟩:=hr i;have HW:=zz (zCi h i (by omega));have hci:¬((i:Int)+1=0):=by omega
  have e1:((i:Int)+1 - 1)=(i:Int):=by omega
  clear h hc hr;go_enter Tryz.func135,Tryz.ntmps135
  go_wp2_with fail
  try rw [e1]
  refine HW.out.mono ?_;rintro e w2 ⟨rfl,hf2⟩;have H2:=zz (H.out.old hf2);have FF:=zz hf2;have z0:∀y:Lcl.InS (fun w'=>Fr (fun _=>False) w2 w'),y.w.cell? ⟨hb,1+(f+i) % 5 * 3,none⟩=some (.int .i64 (xI r f i 0)):=fun y=>y.h.cel (H2.out.at' i 0 (by omega))
  have z2:∀y:Lcl.InS (fun w'=>Fr (fun _=>False) w2 w'),y.w.cell? ⟨hb,1+(f+i) % 5 * 3+2,none⟩=some (.int .i64 (xI r f i 2)):=fun y=>y.h.cel (H2.out.at' i 2 (by omega))
  clear hf2;go_wp2_with fail
  refine Lcl.wp_region_calm (by kernel_rfl) [(true,[0,1,2,4,5,6]),(false,[3,7]),(true,[8,9])] #[0,1,3,7,0,16,48,112,255,511] [0,1,2,3,4,5,6,7] 0 #[true,true,true,true,true,true,true,true,true,true] (by kernel_rfl) (by kernel_rfl) (by kernel_rfl) (fun w'=>Fr (fun _=>False) w2 w') (Fr.same w2).drew (fun d c a v w h=>by cases d <;> exact h) ?_;simp only [Lcl.opsOf,List.map_cons,List.map_nil,List.getElem?_toArray,List.getElem?_cons_succ,List.getElem?_cons_zero,Option.getD_some];refine Lcl.wpCalm_t ?_;repeat (go_big_quiet_step (rfl))
  refine wpQuiet_nil ?_;refine Lcl.wpCalm_f ?_;repeat (go_big_quiet_step (rfl))
  refine wpQuiet_nil ?_;refine Lcl.wpCalm_t ?_;repeat (go_big_quiet_step (rfl))
  refine wpQuiet_nil ?_;refine Lcl.wpCalm_nil ?_;refine Lcl.wpG_run [] _ _ _ (by kernel_rfl) ?_;simp only [List.map_cons,List.map_nil,List.getElem?_toArray,List.getElem?_cons_succ,List.getElem?_cons_zero,Option.getD_some];go_wp2_with fail
  go_ret
  exact ⟨rfl,FF.out.drew⟩
end
section
variable {w w':World} {pb mb:Nat} {S:Nat→Prop}
structure Hrd where
 hb:Nat
 ep:Int
 r:List Int
 f:Nat
 c:Nat
def zIn (x:Hrd):Value:=.pointer (some ⟨x.hb,0,none⟩)
def vg (L:List (Int × Hrd)):List (Int × Value):=L.map fun x=>(x.1,zIn x.2)
structure yl (w:World) (pb mb:Nat) (L:List (Int × Hrd)):Prop where
 b:w.heap[pb]?=some (.cells #[.map (some mb)] 240 (0,0))
 m:xT zUs w mb (vg L)
 ne:pb≠mb
 el:∀x∈L,xc w x.2.hb x.2.ep x.2.r x.2.f x.2.c∧x.2.hb≠pb∧x.2.hb≠mb
 ap:(L.map (·.2.hb)).Nodup
def zCj (pb mb:Nat) (L:List (Int × Hrd)):Nat→Prop:=fun i=>i=pb∨i=mb∨∃x∈L,i=x.2.hb
theorem yl.fr {L:List (Int × Hrd)} (h:yl w pb mb L) (hf:Fr S w w') (hS:∀i,zCj pb mb L i→¬S i):yl w' pb mb L:=
 ⟨(hf.block pb (zA h.b) (hS _ (.inl rfl))).trans h.b,h.m.fr hf (hS _ (.inr (.inl rfl))),h.ne,fun x hx=>⟨(h.el x hx).1.fr hf (hS _ (.inr (.inr ⟨x,hx,rfl⟩))),(h.el x hx).2⟩,h.ap⟩
theorem yl.old {L:List (Int × Hrd)} (h:yl w pb mb L) (hf:Fr (fun _=>False) w w'):yl w' pb mb L:=h.fr hf fun _ _ h=>h
theorem zVe {L:List (Int × Hrd)} {k:Int} :zk (vg L) k=((L.find? fun x=>x.1=k).map (·.2)).map zIn:=by
 unfold zk vg;rw [List.find?_map,Option.map_map,Option.map_map];rfl
theorem zVf (w:World):Calls Tryz.prog 71 #[] w fun e w'=>∃pb mb,e=.returned (.pointer (some ⟨pb,0,none⟩))∧yl w' pb mb []∧w.heap.size≤pb∧w.heap.size≤mb∧Fr (fun _=>False) w w':=by
 have f1:=(Fr.same w).alloc (.map #[] 0);have m1:=xT.made zUs w;have f2:=(Fr.same (w.alloc (.map #[] 0))).alloc (.cells #[.map (some w.heap.size)] 240);have x2:=zC (w.alloc (.map #[] 0)) (.cells #[.map (some w.heap.size)] 240);have hs:(w.alloc (.map #[] 0)).heap.size=w.heap.size+1:=by simp
 have HT:=zz (show yl ((w.alloc (.map #[] 0)).alloc (.cells #[.map (some w.heap.size)] 240)) (w.heap.size+1) w.heap.size [] from ⟨by rw [←hs]; exact x2,m1.fr f2 (fun h=>h),by omega,fun r hr=>(by cases hr),List.nodup_nil⟩);have FF:=zz (f1.tr f2);have hmm:=@run_makeMap Tryz.prog;clear f1 m1 f2 x2 hs;go_enter Tryz.func71,Tryz.ntmps71
 go_wp2_with fail
 go_ret
 exact ⟨w.heap.size+1,w.heap.size,rfl,HT.out,by omega,Nat.le_refl _,FF.out⟩
end
section
variable {w w':World} {pb mb:Nat} {S:Nat→Prop}
theorem zeroH (w:World):(zeroValue 249).run Tryz.prog w=.ok (.pointer none) w:=by kernel_rfl
def yV (L:List (Int × Hrd)) (k:Int):Option Hrd:=(L.find? fun x=>x.1=k).map (·.2)
theorem ui {L:List (Int × Hrd)} {k:Int} {x:Hrd} (h:yV L k=some x):(k,x)∈L:=by
 unfold yV at h;cases hf:L.find? fun r=>r.1=k with
 | none=>rw [hf] at h; cases h
 | some r=>
  rw [hf] at h;have h1:=List.find?_some hf;have h2:=List.mem_of_find?_eq_some hf;simp at h h1;obtain ⟨a,y⟩:=r;simp at h h1;subst h h1;exact h2
theorem yl.look {L:List (Int × Hrd)} (h:yl w pb mb L) {k:Int} (hk:(Lit.int .i64 k).wf=true):(Instr.lookup 238 (.map (some mb)) (.int .i64 k) true).run Tryz.prog w=.ok (.tuple #[((yV L k).map zIn).getD (.pointer none),.bool ((yV L k).map zIn).isSome]) w:=by
 have h1:=h.m.look uk Tryz.underlying238 (zeroH w) hk;rw [zVe] at h1;exact h1
def xP:List Int:=[0,0,0,0,0,0,0,0,0,0,0,0,0,0,0]
def OfPost (w:World) (L:List (Int × Hrd)) (k:Int) (e:Ending) (w':World):Prop:=
 (∃x,yV L k=some x∧e=.returned (zIn x)∧Fr (fun _=>False) w w')∨
 (yV L k=none∧∃hb,w.heap.size≤hb∧e=.returned (.pointer (some ⟨hb,0,none⟩))∧xc w' hb (-1) xP 0 0∧Fr (fun _=>False) w w')
theorem zMz {L:List (Int × Hrd)} (h:yl w pb mb L) (k:Int) (hk:(Lit.int .i64 k).wf=true):Calls Tryz.prog 133 #[.pointer (some ⟨pb,0,none⟩),.int .i64 k] w (OfPost w L k):=by
 have c0:w.cell? ⟨pb,0,none⟩=some (.map (some mb)):=(zB h.b 0).trans rfl;have hlk:=h.look hk;clear h;cases hg:yV L k with
 | none=>
  rw [hg] at hlk;dsimp only [Option.map,Option.getD,Option.isSome] at hlk;have fa:=(Fr.same w).alloc (.cells (jL (-1) xP 0 0).toArray 255);have ha:=zC w (.cells (jL (-1) xP 0 0).toArray 255);have HA:=zz (show xc (w.alloc (.cells (jL (-1) xP 0 0).toArray 255)) w.heap.size (-1) xP 0 0 from ⟨ha,rfl,by omega,by omega⟩);have FA:=zz fa;have HG:=zz hg;clear fa ha hg;go_enter Tryz.func133,Tryz.ntmps133
  go_wp2_with fail
  go_ret
  exact .inr ⟨HG.out,w.heap.size,Nat.le_refl _,rfl,HA.out,FA.out⟩
 | some x=>
  rw [hg] at hlk;dsimp only [Option.map,Option.getD,Option.isSome] at hlk;unfold zIn at hlk;have HG:=zz hg;clear hg;go_enter Tryz.func133,Tryz.ntmps133
  go_wp2_with fail
  go_ret
  exact .inl ⟨x,HG.out,rfl,Fr.same w⟩
end
def xC (e at':Int):Value:=.agg #[.int .i64 e,.int .i64 at',.int .i64 0,.int .i64 0,.int .i64 0,.int .i64 0,.int .i64 0,.slice none 0 0,.slice none 0 0,.slice none 0 0]
theorem zGo (at' e:Int) (w:World):Calls Tryz.prog 32 #[.int .i64 at',.int .i64 e] w fun r w'=>r=.returned (if e=0 then xC 0 at' else xC e 0)∧Fr (fun _=>False) w w':=by
 by_cases h:e=0
 ·subst h
  rw [if_pos rfl];have FF:=zz ((Fr.same w).alloc (.cells #[.int .i64 0,.int .i64 at',.int .i64 0,.int .i64 0,.int .i64 0,.int .i64 0,.int .i64 0,.slice none 0 0,.slice none 0 0,.slice none 0 0] 31));have dd:=fun j=>zD w #[.int .i64 0,.int .i64 at',.int .i64 0,.int .i64 0,.int .i64 0,.int .i64 0,.int .i64 0,.slice none 0 0,.slice none 0 0,.slice none 0 0] 31 j
  go_enter Tryz.func32,Tryz.ntmps32
  go_wp2_with fail
  refine bodyPost_ret (v:=xC 0 at') (by simp [results,Tryz.f32,go_sem,xC,dd]) rfl ⟨rfl,FF.out⟩
 ·rw [if_neg h]
  have FF:=zz ((Fr.same w).alloc (.cells #[.int .i64 e,.int .i64 0,.int .i64 0,.int .i64 0,.int .i64 0,.int .i64 0,.int .i64 0,.slice none 0 0,.slice none 0 0,.slice none 0 0] 31));have dd:=fun j=>zD w #[.int .i64 e,.int .i64 0,.int .i64 0,.int .i64 0,.int .i64 0,.int .i64 0,.int .i64 0,.slice none 0 0,.slice none 0 0,.slice none 0 0] 31 j
  go_enter Tryz.func32,Tryz.ntmps32
  go_wp2_with fail
  refine bodyPost_ret (v:=xC e 0) (by simp [results,Tryz.f32,go_sem,xC,dd]) rfl ⟨rfl,FF.out⟩
theorem zEq (xb:Nat) (st en at':Int) (w:World) (c0:w.cell? ⟨xb,0,none⟩=some (.int .i64 st)) (c1:w.cell? ⟨xb,1,none⟩=some (.int .i64 en)):Calls Tryz.prog 79 #[.pointer (some ⟨xb,0,none⟩),.int .i64 at'] w fun e w'=>e=.returned (.bool (decide (st≤at'∧at'≤en)))∧w'=w:=by
 by_cases h:st≤at'
 ·by_cases h2:at'≤en
  ·rw [decide_eq_true ⟨h,h2⟩]
   go_enter Tryz.func79,Tryz.ntmps79
   go_wp2_with fail
   go_ret
   exact ⟨rfl,rfl⟩
  ·rw [decide_eq_false fun x=>h2 x.2]
   have h3:decide (at'≤en)=false:=by simpa using h2
   go_enter Tryz.func79,Tryz.ntmps79
   go_wp2_with fail
   go_ret
   exact ⟨rfl,rfl⟩
 ·rw [decide_eq_false fun x=>h x.1]
  go_enter Tryz.func79,Tryz.ntmps79
  go_wp2_with fail
  go_ret
  exact ⟨rfl,rfl⟩
section
variable {w w':World} {pb mb:Nat} {S:Nat→Prop}
def yA (r:List Int) (f:Nat) (b:Bat):Nat→Option Int
 | 0=>none
 | k+1=>if xI r f k 0=b.seq∧xI r f k 2=b.span then some (xI r f k 1) else yA r f b k
def ki (ep:Int) (r:List Int) (f c:Nat) (b:Bat):Int × Bool × Int:=
 if b.epoch < ep then (0,false,8)
 else if b.epoch=ep then match yA r f b c with
  | some x=>(x,true,0)
  | none=>if b.seq=zEp r f c then (0,false,0) else (0,false,9)
 else if b.seq=0 then (0,false,0) else (0,false,9)
def chkV (p:Int × Bool × Int):Value:=.tuple #[.int .i64 p.1,.bool p.2.1,.int .i64 p.2.2]
def ju (r:List Int) (f:Nat):Prop:=∀i,(0≤xI r f i 0∧xI r f i 0≤1073741824)∧0≤xI r f i 2∧xI r f i 2≤50
end
section
variable {w w':World} {pb mb:Nat} {S:Nat→Prop}
def chkL (L:List (Int × Hrd)) (b:Bat):Int × Bool × Int:=match yV L b.prod with
 | some x=>ki x.ep x.r x.f x.c b
 | none=>ki (-1) xP 0 0 b
open Classical in
noncomputable def zQg (L:List (Int × Hrd)) (b:Bat):Int × Bool × Int:=if b.prod= -1 then (0,false,0) else if zQe { b with base:=0 } then chkL L b else (0,false,1)
theorem zDr:ju xP 0:=fun i=>by
 have h:∀k,xP.getD k 0=0:=fun k=>by
  unfold xP;rcases Nat.lt_or_ge k 15 with h | h
  ·have:k=0∨k=1∨k=2∨k=3∨k=4∨k=5∨k=6∨k=7∨k=8∨k=9∨k=10∨k=11∨k=12∨k=13∨k=14:=by omega
   rcases this with rfl | rfl | rfl | rfl | rfl | rfl | rfl | rfl | rfl | rfl | rfl | rfl | rfl | rfl | rfl <;> rfl
  ·rw [List.getD_eq_getElem?_getD,List.getElem?_eq_none (by simpa using h)]
   rfl
 unfold xI;rw [h,h];omega
theorem of_hear {L:List (Int × Hrd)} (h:yl w pb mb L) (hR:∀x∈L,ju x.2.r x.2.f) {b:Bat} {e:Ending} (hp:OfPost w L b.prod e w'):
  ∃hb ep r f c,e=.returned (.pointer (some ⟨hb,0,none⟩))∧xc w' hb ep r f c∧ju r f∧chkL L b=ki ep r f c b∧Fr (fun _=>False) w w':=by
 unfold chkL;rcases hp with ⟨x,hx,rfl,hf⟩ | ⟨hn,hb,-,rfl,hh,hf⟩
 ·have hm:=ui hx
  rw [hx];exact ⟨x.hb,x.ep,x.r,x.f,x.c,rfl,(h.el _ hm).1.old hf,hR _ hm,rfl,hf⟩
 ·rw [hn]
  exact ⟨hb,-1,xP,0,0,rfl,hh,zDr,rfl,hf⟩
end
section
variable {w w':World} {pb mb:Nat} {S:Nat→Prop}
theorem zNa {L:List (Int × Hrd)} (h:yl w pb mb L) (hR:∀x∈L,ju x.2.r x.2.f) (b:Bat) (oa:Option Addr) (n cap:Nat):Calls Tryz.prog 76 #[.pointer (some ⟨pb,0,none⟩),yP b (.slice oa n cap)] w fun e w'=>e=.returned (chkV (zQg L b))∧Fr (fun _=>False) w w':=by
 have H:=zz h;have HR:=zz hR;clear h hR;unfold yP zQg;by_cases h1:b.prod= -1
 ·rw [if_pos h1]
  have FA:=zz ((Fr.same w).alloc (.cells #[.int .i64 b.base,.int .i64 b.span,.int .i64 (-1),.int .i64 b.epoch,.int .i64 b.seq,.slice oa n cap] 35));unfold chkV;go_enter Tryz.func76,Tryz.ntmps76
  go_wp2_with fail
  go_ret3
  exact ⟨rfl,FA.out⟩
 ·rw [if_neg h1]
  have fa:=(Fr.same w).alloc (.cells #[.int .i64 0,.int .i64 b.span,.int .i64 b.prod,.int .i64 b.epoch,.int .i64 b.seq,.slice oa n cap] 35);have xa:=zC w (.cells #[.int .i64 0,.int .i64 b.span,.int .i64 b.prod,.int .i64 b.epoch,.int .i64 b.seq,.slice oa n cap] 35);have FA:=zz fa;have XA:=zz xa;have HM:=zz (zJb { b with base:=0 } oa n cap (w.alloc (.cells #[.int .i64 0,.int .i64 b.span,.int .i64 b.prod,.int .i64 b.epoch,.int .i64 b.seq,.slice oa n cap] 35)));unfold yP at HM;dsimp only at HM;clear fa xa;by_cases hmay:zQe { b with base:=0 }
  ·rw [if_pos hmay]
   have MAY:=zz hmay;clear hmay;go_enter Tryz.func76,Tryz.ntmps76
   go_wp2_with fail
   generalize (w.alloc (.cells #[.int .i64 0,.int .i64 b.span,.int .i64 b.prod,.int .i64 b.epoch,.int .i64 b.seq,.slice oa n cap] 35))=W at *;refine HM.out.mono ?_;rintro e w2 ⟨c,rfl,hc,hf2⟩;obtain rfl:c=true:=hc.2 MAY.out;have F2:=zz (FA.out.tr hf2);have X2:=zz ((hf2.block _ (zA XA.out) fun h=>h).trans XA.out);have c2:w2.cell? ⟨w.heap.size,2,none⟩=some (.int .i64 b.prod):=(zB X2.out 2).trans rfl;have HOF:=zz (zMz (H.out.old F2.out) b.prod (by have h9:0≤b.prod∧b.prod≤1073741824:=MAY.out.1; simp [Lit.wf,IntKind.min,IntKind.max,IntKind.signed,IntKind.bits]; omega));clear hf2 HM hc;go_wp2_with fail
   refine HOF.out.mono ?_;rintro e w3 hp;obtain ⟨hb,ep,r,f,c,rfl,hh,hro,hchk,hf3⟩:=of_hear (H.out.old F2.out) HR.out hp;have F3:=zz (F2.out.tr hf3);have X3:=zz ((hf3.block _ (zA X2.out) fun h=>h).trans X2.out);have HH:=zz hh;have RO:=zz hro;have CK:=zz hchk;clear hp hh hro hchk hf3 HOF c2;have z0:∀y:Lcl.InS (fun w'=>Fr (fun _=>False) w3 w'),y.w.cell? ⟨w.heap.size,3,none⟩=some (.int .i64 b.epoch):=fun y=>y.h.cel ((zB X3.out 3).trans rfl)
   have z1:∀y:Lcl.InS (fun w'=>Fr (fun _=>False) w3 w'),y.w.cell? ⟨hb,0,none⟩=some (.int .i64 ep):=fun y=>y.h.cel HH.out.epoch
   go_wp2_with fail
   refine Lcl.wp_region_calm (by kernel_rfl) [(true,[0,2,3,4]),(false,[1,5]),(true,[6,7])] #[0,1,0,4,12,28,63,127] [0,1,2,3,4,5] 0 #[true,true,true,true,true,true,true,true] (by kernel_rfl) (by kernel_rfl) (by kernel_rfl) (fun w'=>Fr (fun _=>False) w3 w') (Fr.same w3).drew (fun d c a v w h=>by cases d <;> exact h) ?_;simp only [Lcl.opsOf,List.map_cons,List.map_nil,List.getElem?_toArray,List.getElem?_cons_succ,List.getElem?_cons_zero,Option.getD_some];refine Lcl.wpCalm_t ?_;repeat (go_big_quiet_step (rfl))
   refine wpQuiet_nil ?_;refine Lcl.wpCalm_f ?_;repeat (go_big_quiet_step (rfl))
   refine wpQuiet_nil ?_;refine Lcl.wpCalm_t ?_;repeat (go_big_quiet_step (rfl))
   refine wpQuiet_nil ?_;refine Lcl.wpCalm_nil ?_;refine Lcl.wpG_run [] _ _ _ (by kernel_rfl) ?_;simp only [List.map_cons,List.map_nil,List.getElem?_toArray,List.getElem?_cons_succ,List.getElem?_cons_zero,Option.getD_some];clear z0 z1;by_cases he:b.epoch < ep
   ·have hres:ki ep r f c b=(0,false,8):=by unfold ki; rw [if_pos he]
    have HRES:=zz hres;have F4:=zz F3.out.drew;clear hres;go_wp2_with fail
    go_ret3
    exact ⟨by rw [CK.out,HRES.out]; rfl,F4.out⟩
   ·skip
    have F4:=zz F3.out.drew;have H4:=zz (HH.out.old (Fr.same w3).drew);have X4:=zz (((Fr.same w3).drew.block _ (zA X3.out) fun h=>h).trans X3.out);clear X3 HH F3;generalize w3.drew=w4 at *;have z0:∀y:Lcl.InS (fun w'=>Fr (fun _=>False) w4 w'),y.w.cell? ⟨w.heap.size,3,none⟩=some (.int .i64 b.epoch):=fun y=>y.h.cel ((zB X4.out 3).trans rfl)
    have z1:∀y:Lcl.InS (fun w'=>Fr (fun _=>False) w4 w'),y.w.cell? ⟨hb,0,none⟩=some (.int .i64 ep):=fun y=>y.h.cel H4.out.epoch
    go_wp2_with fail
    refine Lcl.wp_region_calm (by kernel_rfl) [(true,[0,2,3,4]),(false,[1,5]),(true,[6,7])] #[0,1,0,4,12,28,63,127] [0,1,2,3,4,5] 0 #[true,true,true,true,true,true,true,true] (by kernel_rfl) (by kernel_rfl) (by kernel_rfl) (fun w'=>Fr (fun _=>False) w4 w') (Fr.same w4).drew (fun d c a v w h=>by cases d <;> exact h) ?_;simp only [Lcl.opsOf,List.map_cons,List.map_nil,List.getElem?_toArray,List.getElem?_cons_succ,List.getElem?_cons_zero,Option.getD_some];refine Lcl.wpCalm_t ?_;repeat (go_big_quiet_step (rfl))
    refine wpQuiet_nil ?_;refine Lcl.wpCalm_f ?_;repeat (go_big_quiet_step (rfl))
    refine wpQuiet_nil ?_;refine Lcl.wpCalm_t ?_;repeat (go_big_quiet_step (rfl))
    refine wpQuiet_nil ?_;refine Lcl.wpCalm_nil ?_;refine Lcl.wpG_run [] _ _ _ (by kernel_rfl) ?_;simp only [List.map_cons,List.map_nil,List.getElem?_toArray,List.getElem?_cons_succ,List.getElem?_cons_zero,Option.getD_some];clear z0 z1;have F5:=zz F4.out.drew;have H5:=zz (H4.out.old (Fr.same w4).drew);have X5:=zz (((Fr.same w4).drew.block _ (zA X4.out) fun h=>h).trans X4.out);clear X4 H4 F4;generalize w4.drew=w5 at *;by_cases hq:b.epoch=ep
    ·have cc:=H5.out.count
     have c5c:=H5.out.c5;subst hq;have HQ:=zz (rfl:b.epoch=b.epoch);have HEP:=zz he;clear he;go_wp2_with fail
     go_loopw [9] (fun i wr=>∃k:Nat,∃j:Int,i=.int .i64 j∧j=(k:Int) - 1∧k≤c∧yA r f b c=yA r f b k∧Fr (fun _=>False) w5 wr) (fun i _=>(intOf i+1).toNat)
     case atStart=>exact ⟨c,_,rfl,rfl,Nat.le_refl _,rfl,Fr.same _⟩
     case round=>
      obtain ⟨k,j,rfl,hj,hk,hsame,hf⟩:=hrel;have FK:=zz hf;have SM:=zz hsame;have HK:=zz (H5.out.old hf);have XK:=zz ((hf.block _ (zA X5.out) fun h=>h).trans X5.out);clear hf hsame cc;rcases k with _ | k
      ·obtain rfl:j= -1:=by omega
       have HN:=zz (zQf HK.out fun i=>⟨(RO.out i).1.1,(RO.out i).1.2,(RO.out i).2.1,(RO.out i).2.2⟩);clear hj hk;go_wp2_with fail
       refine HN.out.mono ?_;rintro e w7 ⟨rfl,hf7⟩;have F7:=zz (F5.out.tr (FK.out.tr hf7));have c4:w7.cell? ⟨w.heap.size,4,none⟩=some (.int .i64 b.seq):=hf7.cel ((zB XK.out 4).trans rfl);clear hf7 HN;by_cases hs:b.seq=zEp r f c
       ·have HRES:=zz (show ki b.epoch r f c b=(0,false,0) by unfold ki; rw [if_neg (by have:=HEP.out; omega),if_pos rfl,SM.out,show yA r f b 0=none from rfl]; exact if_pos hs)
        have hs2:decide (b.seq=zEp r f c)=true:=decide_eq_true hs;go_wp2_with fail
        go_ret3
        exact ⟨by rw [CK.out,HRES.out]; rfl,F7.out⟩
       ·have HRES:=zz (show ki b.epoch r f c b=(0,false,9) by unfold ki; rw [if_neg (by have:=HEP.out; omega),if_pos rfl,SM.out,show yA r f b 0=none from rfl]; exact if_neg hs)
        have hs2:decide (b.seq=zEp r f c)=false:=decide_eq_false hs;go_wp2_with fail
        go_ret3
        exact ⟨by rw [CK.out,HRES.out]; rfl,F7.out⟩
      ·obtain rfl:j=(k:Int):=by omega
       have HA:=zz (zCi HK.out k (by omega));clear hj;go_wp2_with fail
       refine HA.out.mono ?_;rintro e w7 ⟨rfl,hf7⟩;have F7:=zz (FK.out.tr hf7);have H7:=zz (HK.out.old hf7);have X7:=zz ((hf7.block _ (zA XK.out) fun h=>h).trans XK.out);clear hf7 HA;have z0:∀y:Lcl.InS (fun w'=>Fr (fun _=>False) w7 w'),y.w.cell? ⟨hb,1+(f+k) % 5 * 3,none⟩=some (.int .i64 (xI r f k 0)):=fun y=>y.h.cel (H7.out.at' k 0 (by omega))
       have z2:∀y:Lcl.InS (fun w'=>Fr (fun _=>False) w7 w'),y.w.cell? ⟨hb,1+(f+k) % 5 * 3+2,none⟩=some (.int .i64 (xI r f k 2)):=fun y=>y.h.cel (H7.out.at' k 2 (by omega))
       have z4:∀y:Lcl.InS (fun w'=>Fr (fun _=>False) w7 w'),y.w.cell? ⟨w.heap.size,4,none⟩=some (.int .i64 b.seq):=fun y=>y.h.cel ((zB X7.out 4).trans rfl)
       have z5:∀y:Lcl.InS (fun w'=>Fr (fun _=>False) w7 w'),y.w.cell? ⟨w.heap.size,1,none⟩=some (.int .i64 b.span):=fun y=>y.h.cel ((zB X7.out 1).trans rfl)
       by_cases h8:xI r f k 0=b.seq
       ·have hd8:decide (xI r f k 0=b.seq)=true:=decide_eq_true h8
        by_cases h9:xI r f k 2=b.span
        ·have hd9:decide (xI r f k 2=b.span)=true:=decide_eq_true h9
         have c7:w7.drew.cell? ⟨hb,1+(f+k) % 5 * 3+1,none⟩=some (.int .i64 (xI r f k 1)):=(Fr.same w7).drew.cel (H7.out.at' k 1 (by omega));have F8:=zz (F5.out.tr F7.out.drew);have HRES:=zz (show ki b.epoch r f c b=(xI r f k 1,true,0) by unfold ki; rw [if_neg (by have:=HEP.out; omega),if_pos rfl,SM.out]; unfold yA; rw [if_pos ⟨h8,h9⟩]);go_wp2_with fail
         refine Lcl.wp_region_calm (by kernel_rfl) [(true,[0,1,2,4]),(false,[3,5]),(true,[6,7,8,9,10,12]),(false,[11,13]),(true,[14,15])] #[0,1,3,7,0,16,63,127,255,511,1023,2047,255,4351,16383,32767] [0,1,2,3,4,5,6,7,8,9,10,11,12,13] 0 #[true,true,true,true,true,true,true,true,true,true,true,true,true,true,true,true] (by kernel_rfl) (by kernel_rfl) (by kernel_rfl) (fun w'=>Fr (fun _=>False) w7 w') (Fr.same w7).drew (fun d c a v w h=>by cases d <;> exact h) ?_;simp only [Lcl.opsOf,List.map_cons,List.map_nil,List.getElem?_toArray,List.getElem?_cons_succ,List.getElem?_cons_zero,Option.getD_some];refine Lcl.wpCalm_t ?_;repeat (go_big_quiet_step (rfl))
         refine wpQuiet_nil ?_;refine Lcl.wpCalm_f ?_;repeat (go_big_quiet_step (rfl))
         refine wpQuiet_nil ?_;refine Lcl.wpCalm_t ?_;repeat (go_big_quiet_step (rfl))
         refine wpQuiet_nil ?_;refine Lcl.wpCalm_f ?_;repeat (go_big_quiet_step (rfl))
         refine wpQuiet_nil ?_;refine Lcl.wpCalm_t ?_;repeat (go_big_quiet_step (rfl))
         refine wpQuiet_nil ?_;refine Lcl.wpCalm_nil ?_;refine Lcl.wpG_run [] _ _ _ (by kernel_rfl) ?_;simp only [List.map_cons,List.map_nil,List.getElem?_toArray,List.getElem?_cons_succ,List.getElem?_cons_zero,Option.getD_some];clear z0 z2 z4 z5;go_wp2_with fail
         go_ret3
         exact ⟨by rw [CK.out,HRES.out]; rfl,F8.out⟩
        ·have hd9:decide (xI r f k 2=b.span)=false:=decide_eq_false h9
         have F8:=zz (F7.out.drew);have NXT:=zz (show yA r f b (k+1)=yA r f b k by conv=>lhs; unfold yA; rw [if_neg fun x=>h9 x.2]);go_wp2_with fail
         refine Lcl.wp_region_calm (by kernel_rfl) [(true,[0,1,2,4]),(false,[3,5]),(true,[6,7,8,9,10,12]),(false,[11,13]),(true,[14,15])] #[0,1,3,7,0,16,63,127,255,511,1023,2047,255,4351,16383,32767] [0,1,2,3,4,5,6,7,8,9,10,11,12,13] 0 #[true,true,true,true,true,true,true,true,true,true,true,true,true,true,true,true] (by kernel_rfl) (by kernel_rfl) (by kernel_rfl) (fun w'=>Fr (fun _=>False) w7 w') (Fr.same w7).drew (fun d c a v w h=>by cases d <;> exact h) ?_;simp only [Lcl.opsOf,List.map_cons,List.map_nil,List.getElem?_toArray,List.getElem?_cons_succ,List.getElem?_cons_zero,Option.getD_some];refine Lcl.wpCalm_t ?_;repeat (go_big_quiet_step (rfl))
         refine wpQuiet_nil ?_;refine Lcl.wpCalm_f ?_;repeat (go_big_quiet_step (rfl))
         refine wpQuiet_nil ?_;refine Lcl.wpCalm_t ?_;repeat (go_big_quiet_step (rfl))
         refine wpQuiet_nil ?_;refine Lcl.wpCalm_f ?_;repeat (go_big_quiet_step (rfl))
         refine wpQuiet_nil ?_;refine Lcl.wpCalm_t ?_;repeat (go_big_quiet_step (rfl))
         refine wpQuiet_nil ?_;refine Lcl.wpCalm_nil ?_;refine Lcl.wpG_run [] _ _ _ (by kernel_rfl) ?_;simp only [List.map_cons,List.map_nil,List.getElem?_toArray,List.getElem?_cons_succ,List.getElem?_cons_zero,Option.getD_some];clear z0 z2 z4 z5;go_wp2_with fail
         go_roundw
         case rel=>exact ⟨k,_,rfl,rfl,by omega,SM.out.trans NXT.out,F8.out⟩
         case measure=>simp [intOf]
       ·have F8:=zz (F7.out.drew)
        have NXT:=zz (show yA r f b (k+1)=yA r f b k by conv=>lhs; unfold yA; rw [if_neg fun x=>h8 x.1]);go_wp2_with fail
        have hd8:(xI r f k 0 == b.seq)=false:=by simpa using h8
        refine Lcl.wp_region_calm (by kernel_rfl) [(true,[0,1,2,4]),(false,[3,5]),(true,[6,7,8,9,10,12]),(false,[11,13]),(true,[14,15])] #[0,1,3,7,0,16,63,127,255,511,1023,2047,255,4351,16383,32767] [0,1,2,3,4,5,6,7,8,9,10,11,12,13] 0 #[true,true,true,true,true,true,true,true,true,true,true,true,true,true,true,true] (by kernel_rfl) (by kernel_rfl) (by kernel_rfl) (fun w'=>Fr (fun _=>False) w7 w') (Fr.same w7).drew (fun d c a v w h=>by cases d <;> exact h) ?_;simp only [Lcl.opsOf,List.map_cons,List.map_nil,List.getElem?_toArray,List.getElem?_cons_succ,List.getElem?_cons_zero,Option.getD_some];refine Lcl.wpCalm_t ?_;repeat (go_big_quiet_step (rfl))
        refine wpQuiet_nil ?_;refine Lcl.wpCalm_f ?_;repeat (go_big_quiet_step (rfl))
        refine wpQuiet_nil ?_;refine Lcl.wpCalm_t ?_;repeat (go_big_quiet_step (rfl))
        refine wpQuiet_nil ?_;refine Lcl.wpCalm_f ?_;repeat (go_big_quiet_step (rfl))
        refine wpQuiet_nil ?_;refine Lcl.wpCalm_t ?_;repeat (go_big_quiet_step (rfl))
        refine wpQuiet_nil ?_;refine Lcl.wpCalm_nil ?_;refine Lcl.wpG_run [] _ _ _ (by kernel_rfl) ?_;simp only [List.map_cons,List.map_nil,List.getElem?_toArray,List.getElem?_cons_succ,List.getElem?_cons_zero,Option.getD_some];clear z0 z2 z4 z5;go_wp2_with fail
        go_roundw
        case rel=>exact ⟨k,_,rfl,rfl,by omega,SM.out.trans NXT.out,F8.out⟩
        case measure=>simp [intOf]
    ·have c4:w5.cell? ⟨w.heap.size,4,none⟩=some (.int .i64 b.seq):=(zB X5.out 4).trans rfl
     by_cases hs:b.seq=0
     ·have HRES:=zz (show ki ep r f c b=(0,false,0) by unfold ki; rw [if_neg (by omega),if_neg hq,if_pos hs])
      go_wp2_with fail
      go_ret3
      exact ⟨by rw [CK.out,HRES.out]; rfl,F5.out⟩
     ·have HRES:=zz (show ki ep r f c b=(0,false,9) by unfold ki; rw [if_neg (by omega),if_neg hq,if_neg hs])
      go_wp2_with fail
      go_ret3
      exact ⟨by rw [CK.out,HRES.out]; rfl,F5.out⟩
  ·rw [if_neg hmay]
   have MAY:=zz hmay;clear hmay;unfold chkV;go_enter Tryz.func76,Tryz.ntmps76
   go_wp2_with fail
   generalize (w.alloc (.cells #[.int .i64 0,.int .i64 b.span,.int .i64 b.prod,.int .i64 b.epoch,.int .i64 b.seq,.slice oa n cap] 35))=W at *;refine HM.out.mono ?_;rintro e w2 ⟨c,rfl,hc,hf2⟩;obtain rfl:c=false:=by
    cases c with
    | false=>rfl
    | true=>exact absurd (hc.1 rfl) MAY.out
   have F2:=zz (FA.out.tr hf2);clear hf2 HM hc;go_wp2_with fail
   go_ret3
   exact ⟨rfl,F2.out⟩
end
end Go.Proofs.YtfdhofabgdkkkaaGreatDoor
