/- A part of the proof that what the machine is told keeps its bounds. -/
import Derived.Test.YtfdhofabgdkkkaaGreatDoorJ43
set_option maxHeartbeats 128000000
set_option maxRecDepth 100000
namespace Go.Proofs.YtfdhofabgdkkkaaGreatDoor
open Lib renaming hid→zz
open Go.RowKit Go.Fm Go.BigFrame Go.Shelf Go.Maps
set_option linter.unusedVariables false
set_option linter.unusedSimpArgs false
section
variable {w w':World} {S:Nat→Prop}
noncomputable def yO (s word:ByteArray):Bool:=(zAg s).any fun x=>x.toList == (yn word).toList
theorem zYy (s:ByteArray):Calls Tryz.prog 218 #[.string s] w fun e w'=>e=.returned (.func (.func 263) #[] #[.pointer (some ⟨w.heap.size,0,none⟩)])∧w'=w.alloc (.cells #[.string s] 9):=by
 go_enter Tryz.func218,Tryz.ntmps218
 go_wp2_with fail
 go_ret
 exact ⟨rfl,rfl⟩
theorem keepC_t {A B C:World} (h:zIe A B) (k:zIe B C):zIe A C:=⟨h.1.trans k.1,Nat.le_trans h.2.1 k.2.1,fun i o hi ho=>k.2.2 i o (h.2.2 i o hi ho) ho⟩
theorem keepC_b {w:World} (W:World) (l:Nat) (o o':Obj) (hl:w.heap.size≤l) (h:W.heap[l]?=some o) (hc:o.isCells=false) (hw:o.isWalk=false):zIe W (W.putObj l o'):=by
 refine ⟨KeepsWalks.putObj _ h hw,by simp,fun k u hk hu=>?_⟩;have hne:k≠l:=fun e=>by subst e; rw [h] at hk; cases hk; rw [hc] at hu; cases hu
 rw [World.putObj_heap_other hne];exact hk
structure HasI (w0:World) (wb rb:Nat) (fw:ByteArray) (v:Bool) (W:World):Prop where
 wd:W.heap[wb]?=some (.cells #[.string fw] 9 (0,0))
 rs:W.heap[rb]?=some (.cells #[.bool v] 4 (0,0))
 b:Below w0.heap.size w0 W
theorem HasI.grown {w0 W W':World} {wb rb:Nat} {fw:ByteArray} {v:Bool} {row:Option Nat} (h:HasI w0 wb rb fw v W) (hg:W.grownBy W' row) (hr:∀r,row=some r→w0.heap.size≤r∧∃o:Obj,W.heap[r]?=some o∧o.isCells=false):HasI w0 wb rb fw v W':=by
 refine ⟨(hg.block wb (zA h.wd) fun e=>?_).trans h.wd,(hg.block rb (zA h.rs) fun e=>?_).trans h.rs,h.b.grown hg h.b.size fun k hk=>(hr k hk).1⟩
 ·obtain ⟨-,o,ho,hc⟩:=hr wb e.symm
  rw [h.wd] at ho; cases ho; cases hc
 ·obtain ⟨-,o,ho,hc⟩:=hr rb e.symm
  rw [h.rs] at ho; cases ho; cases hc
theorem vR {fn:Func} {p:Tmp} (h:fn.results=#[.cell p 4]) (tmps:Array Value) (w:World) (a:Addr) (b:Bool)
  (hp:tmps.getD p undef=.pointer (some a)) (hc:w.cell? a=some (.bool b)):(results fn tmps).run Tryz.prog w=.ok (.bool b) w:=by
 have hp':tmps[p]?.getD undef=.pointer (some a):=by simpa using hp
 simp [results,h,hp',asAddr,loadVar,Tryz.underlying4,hc,Sem.run_bind,Result.andThen]
theorem has_in (s word:ByteArray) (hs:s.size≤100000) (hw:word.size≤100000) (w:World) (hT:Lib.Utf8Tabs 1 2 w) (h2:2 < w.heap.size):
  CallsIn Fence.wide 3 Tryz.prog 154 #[.string s,.string word] w fun e w'=>e=.returned (.bool (yO s word))∧Below w.heap.size w w':=by
 have FW:=zz (zAz word (by omega) (w:=(w.alloc (.cells #[.string word] 9)).alloc (.cells #[.bool false] 4)));refine callsIn_of_wp_marks Tryz.func154 rfl trivial ?_ rfl;simp only [Tryz.ntmps154,List.size_toArray,List.length_cons,List.length_nil,Nat.reduceAdd,Nat.reduceSub,Array.replicate_succ,Array.replicate_zero,List.push_toArray,List.append_toArray,List.nil_append,List.cons_append];have f0:=((Fr.same w).alloc (.cells #[.string word] 9)).alloc (.cells #[.bool false] 4);have s1:(w.alloc (.cells #[.string word] 9)).heap.size=w.heap.size+1:=by simp
 have x0:=(zF (.cells #[.bool false] 4) (zA (zC w (.cells #[.string word] 9)))).trans (zC w (.cells #[.string word] 9));have y0:=zC (w.alloc (.cells #[.string word] 9)) (.cells #[.bool false] 4);rw [s1] at y0;have dx:=zB x0 0
 gi_wp2_with (fail)
 refine ⟨trivial,CallsIn.mono (callsIn_wide.2 FW.out) ?_⟩;rintro e w2 ⟨rfl,f2⟩;have x2:=blk x0 f2 fun h=>h
 have y2:=blk y0 f2 fun h=>h
 have dx2:=zB x2 0;have fz2:=zd x2 0;have hf3:Fr (fun i=>i=w.heap.size) w2 (w2.setCell ⟨w.heap.size,0,none⟩ (.string (yn word))):=(Fr.refl (fun i=>i=w.heap.size) w2).setCell (p:=⟨w.heap.size,0,none⟩) (.inl rfl) _;have x3:=(zE x2 (o:=0) (.string (yn word))).trans (show _=some (.cells #[.string (yn word)] 9 (0,0)) from rfl);have y3:=(hf3.block (w.heap.size+1) (zA y2) (by omega)).trans y2;have F3:=(f0.tr f2).trans hf3 fun i e=>.inr (by omega)
 gi_wp2_with (fail)
 generalize (w2.setCell ⟨w.heap.size,0,none⟩ (.string (yn word)))=w3 at *;refine ⟨trivial,CallsIn.mono (callsIn_wide.2 (zYy s)) ?_⟩;rintro e w4 ⟨rfl,rfl⟩
 gi_wp2_with (fail)
 have f5:=(Fr.same w3).alloc (.cells #[.string s] 9);have F5:=zz (F3.tr f5);have X5:=zz (blk x3 f5 fun h=>h);have Y5:=zz (blk y3 f5 fun h=>h);have c5:=zD w3 #[.string s] 9 0;have hst:=zSh 2 (by omega) w3.heap.size s (by omega) (w3.alloc (.cells #[.string s] 9)) (by simp) (c5.trans rfl) (Utf8Tabs_below hT (F5.out.below (Nat.le_refl _) fun k hk=>hk.elim)) (Nat.lt_of_lt_of_le h2 F5.out.size);have szw:w.heap.size≤(w3.alloc (.cells #[.string s] 9)).heap.size:=F5.out.size;clear f0 s1 x0 y0 dx x2 y2 dx2 fz2 hf3 x3 y3 F3 f5 c5 f2 FW;refine wpIn_rangeFunc_ownF rfl (by omega) (gf:=263) (lb:=#[.pointer (some ⟨w3.heap.size,0,none⟩)]) rfl trivial (enters_of Tryz.func263 (by kernel_rfl) rfl)
  hst keepC_t keepC_b (Below.refl _ _) (fun _=>rfl)
  (fun pre W=>HasI w w.heap.size (w.heap.size+1) (yn word) false W∧∀x∈pre,(x.toList == (yn word).toList)=false)
  (fun c pre W=>c=.ret∧HasI w w.heap.size (w.heap.size+1) (yn word) true W∧∃x∈pre,(x.toList == (yn word).toList)=true)
  ?ownI ?ownX ⟨⟨X5.out,Y5.out,F5.out.below (Nat.le_refl _) fun k hk=>hk.elim⟩,fun x hx=>by cases hx⟩
  (fun x=> { tmps:=#[.string s,.string word,undef,.pointer (some ⟨w.heap.size,0,none⟩),.pointer (some ⟨w.heap.size+1,0,none⟩),.string x,.string word,.string (yn word),.string s,.func (.func 263) #[] #[.pointer (some ⟨w3.heap.size,0,none⟩)],.string x,undef,undef,undef],defers:=[] })
  ?assign ?body ?done ?stop
 case ownI=>exact fun pre A B row h hg hr=>⟨h.1.grown hg fun r e=>⟨Nat.le_trans szw (hr r e).1,(hr r e).2⟩,h.2⟩
 case ownX=>exact fun c pre A B row h hg hr=>⟨h.1,h.2.1.grown hg fun r e=>⟨Nat.le_trans szw (hr r e).1,(hr r e).2⟩,h.2.2⟩
 case assign=>
  intro l x W K hK
  gi_wp2_with (rw [Oper.semAt_eq _ _ _ (fun c h=>by cases h)]; go_simp; try go_bits)
  exact hK
 case body=>
  intro l pre x W hI hlt;have c0:=(zB hI.1.wd 0).trans (show _=some (Value.string (yn word)) from rfl);have c1:=zB hI.1.rs 0;have z1:=zd hI.1.rs 0;have HI:=zz hI;clear hI hst;cases heq:(x.toList == (yn word).toList) with
  | false=>
   gi_wp2_with (rw [Oper.semAt_eq _ _ _ (fun c h=>by cases h)]; go_simp; try go_bits)
   exact ⟨KeepsOthers.refl _,⟨KeepsWalks.refl _,Nat.le_refl _,fun _ _ h _=>h⟩,HI.out.1,fun y hy=>(List.mem_append.1 hy).elim (HI.out.2 y) fun h=>by rw [List.mem_singleton.1 h]; exact heq⟩
  | true=>
   gi_wp2_with (rw [Oper.semAt_eq _ _ _ (fun c h=>by cases h)]; go_simp; try go_bits)
   exact ⟨KeepsOthers.setCell _ _ _,rfl,⟨(zV W (o:=0) (show w.heap.size≠w.heap.size+1 by omega) (.bool true)).trans HI.out.1.wd,(zE HI.out.1.rs (o:=0) (.bool true)).trans rfl,HI.out.1.b.setCell (p:=⟨w.heap.size+1,0,none⟩) (Nat.le_succ _) (.bool true)⟩,x,List.mem_append.2 (.inr (List.mem_singleton.2 rfl)),heq⟩
 case done=>
  rintro D ys W hD hS ⟨hI,hno⟩ hK;have c1:=zB hI.rs 0;have z1:=zd hI.rs 0;have hne:w.heap.size+1≠D:=fun e=>by subst e; rw [hI.rs] at hK; cases hK
  have hK':(W.setCell ⟨w.heap.size+1,0,none⟩ (.bool false)).heap[D]?=some (.deferred (some [])):=(zV W (o:=0) (Ne.symm hne) (.bool false)).trans hK;have hR':(W.setCell ⟨w.heap.size+1,0,none⟩ (.bool false)).heap[w.heap.size+1]?=some (.cells #[.bool false] 4 (0,0)):=(zE hI.rs (o:=0) (.bool false)).trans rfl;have hw:yO s word=false:=by unfold yO; rw [←hS]; exact List.any_eq_false.2 fun x hx h=>by rw [hno x hx] at h; cases h
  have hB':Below w.heap.size w (W.setCell ⟨w.heap.size+1,0,none⟩ (.bool false)):=hI.b.setCell (p:=⟨w.heap.size+1,0,none⟩) (Nat.le_succ _) _
  gi_wp2_with (fail)
  refine ⟨by simp,.inl ⟨_,_,rfl,run_takeDeferred hK',?_⟩⟩;refine ⟨_,vR rfl _ _ ⟨w.heap.size+1,0,none⟩ false rfl ?_,by rw [hw],?_⟩
  ·exact zB ((World.putObj_heap_other hne).trans hR') 0
  ·exact hB'.trans (belowK_b (w:=w) (Nat.le_refl _) _ D _ _ (by have:=szw; omega) hK' rfl rfl)
 case stop=>
  rintro D c pre W hD hS ⟨rfl,hI,hyes⟩ hK
  gi_wp2_with (fail)
  refine ⟨by simp,.inl ⟨_,_,rfl,run_takeDeferred hK,?_⟩⟩;have hne:w.heap.size+1≠D:=fun e=>by subst e; rw [hI.rs] at hK; cases hK
  have hw:yO s word=true:=by
   obtain ⟨x,hx,he⟩:=hyes;exact List.any_eq_true.2 ⟨x,hS.subset hx,he⟩
  refine ⟨_,vR rfl _ _ ⟨w.heap.size+1,0,none⟩ true rfl ?_,by rw [hw],?_⟩
  ·exact zB ((World.putObj_heap_other hne).trans hI.rs) 0
  ·exact hI.b.trans (belowK_b (w:=w) (Nat.le_refl _) W D _ _ (by have:=szw; omega) hK rfl rfl)
end
section
variable {w w':World} {K K2:Nat→Prop}
def ja (w:World):Prop:=Lib.Utf8Tabs 1 2 w∧2 < w.heap.size
theorem has_C:zIc yO ja:=fun w s t hc hs ht=>(callsIn_wide.1 (has_in s t hs ht w hc.1 hc.2)).mono fun _ _ h=>⟨h.1,Fr.of_below h.2 (Nat.le_refl _)⟩
theorem xf:∀w w',ja w→Fr (fun _=>False) w w'→ja w':=fun _ _ h hf=>⟨Utf8Tabs_below h.1 (hf.below (Nat.le_refl _) fun _ hk=>hk.elim),Nat.lt_of_lt_of_le h.2 hf.size⟩
theorem zSi (ks:Fst) (op:Int) (nm vl:ByteArray) (kv:Value) (r:Rec) (hv:Value) (w:World) (hk:xV K w kv ks) (hh:xi K2 w hv r.hs) (hl:r.hs.length≤1000) (hz:SmE vl ks r) (hc:ja w):
  Calls Tryz.prog 94 #[exV op nm vl kv,xy r hv] w (xG (xo yO op nm vl ks r) w):=
 zYw has_C xf (ks.sz+1) ks op nm vl kv r hv w (Nat.lt_succ_self _) hk hh hl hz (Nat.zero_le _) hc
end
section
variable {w w':World} {S:Nat→Prop} {K K2:Nat→Prop}
theorem zBz:∀(ks:Fst) (l:Nat),zCs ks l=true→ks.small
 | .nil,_,_=>trivial
 | .cons op nm vl ks r,l,h=>by
  rw [vn] at h;unfold yz at h;simp only [Bool.and_eq_true,decide_eq_true_eq] at h;exact ⟨by have:=(jI h.1.1.2).vls; omega,zBz ks _ h.1.2,zBz r _ h.2⟩
theorem sm_of {op:Int} {nm vl:ByteArray} {ks:Fst} {r:Rec} (h:xp op nm vl ks=true) (hr:jp r):SmE vl ks r:=by
 unfold xp yz at h;simp only [Bool.and_eq_true,decide_eq_true_eq] at h;exact ⟨by have:=(jI h.2.1.2).vls; omega,zBz ks _ h.2.2,by have:=hr.val; omega⟩
theorem zYz (K K1:Nat→Prop) (op:Int) (nm vl:ByteArray) (ks:Fst) (oe:Option Addr) (ce:Nat) (r:Rec) (oa:Option Addr) (n cap:Nat) (h:xi K w (.slice oa n cap) r.hs) (hr:jp r) (hk:xV K1 w (.slice oe ks.len ce) ks) (hw:∀i,K1 i→i < w.heap.size) (hx:xp op nm vl ks=true) (hcw:ja w) (hn:n=r.hs.length):Calls Tryz.prog 48 #[.agg #[.int .i64 op,.string nm,.string vl,.slice oe ks.len ce],xy r (.slice oa n cap)] w fun e w'=>e=.returned (.tuple #[.bool (xo yO op nm vl ks r),.int .i64 0])∧Fr (fun _=>False) w w':=by
 subst hn;have f1:=((Fr.same w).alloc (.cells #[.int .i64 op,.string nm,.string vl,.slice oe ks.len ce] 38)).alloc (.cells #[.int .i64 r.at',.int .i64 r.tm,.bool r.bare,.string r.key,.bool r.gone,.string r.val,.slice oa r.hs.length cap] 95);have F1:=zz f1;have KW:=zz (hk.old f1);have HWB:=zz (fun i hi=>Nat.lt_of_lt_of_le (hw i hi) f1.size);have CW:=zz (xf _ _ hcw f1);have SM:=zz (sm_of hx hr);have H1:=zz (h.old f1);have s1:(w.alloc (.cells #[.int .i64 op,.string nm,.string vl,.slice oe ks.len ce] 38)).heap.size=w.heap.size+1:=by simp
 have x1:=zC (w.alloc (.cells #[.int .i64 op,.string nm,.string vl,.slice oe ks.len ce] 38)) (.cells #[.int .i64 r.at',.int .i64 r.tm,.bool r.bare,.string r.key,.bool r.gone,.string r.val,.slice oa r.hs.length cap] 95);rw [s1] at x1;have X1:=zz x1;have X0:=zz ((zF (.cells #[.int .i64 r.at',.int .i64 r.tm,.bool r.bare,.string r.key,.bool r.gone,.string r.val,.slice oa r.hs.length cap] 95) (zA (zC w (.cells #[.int .i64 op,.string nm,.string vl,.slice oe ks.len ce] 38)))).trans (zC w (.cells #[.int .i64 op,.string nm,.string vl,.slice oe ks.len ce] 38)));have d0:=fun j=>zB X0.out j
 have HR:=zz hr;clear f1 s1 x1 h hr hk hw hcw;have HX:=zz hx;clear hx;have XW:=fun (w':World) (h1:xV K1 w' (.slice oe ks.len ce) ks) (h2:∀i,K1 i→i < w'.heap.size)=>ku (w:=w') op nm vl (.slice oe ks.len ce) ks h1 h2
 unfold exV at XW;have XW:=zz XW;unfold xy;go_enter Tryz.func48,Tryz.ntmps48
 go_wp2_with fail
 generalize ((w.alloc (.cells #[.int .i64 op,.string nm,.string vl,.slice oe ks.len ce] 38)).alloc (.cells #[.int .i64 r.at',.int .i64 r.tm,.bool r.bare,.string r.key,.bool r.gone,.string r.val,.slice oa r.hs.length cap] 95))=w1 at *;refine (XW.out w1 KW.out HWB.out).mono ?_;rintro e w2 ⟨rfl,f2⟩;rw [HX.out,if_pos rfl];have KW:=zz (KW.out.old f2);have CW:=zz (xf _ _ CW.out f2);have F2:=zz (F1.out.tr f2);have H2:=zz (H1.out.old f2);have X1:=zz ((f2.block _ (zA X1.out) fun h=>h).trans X1.out);have X0:=zz ((f2.block _ (zA X0.out) fun h=>h).trans X0.out);have d1:=fun j=>zB X1.out j
 have RC:=zz (zDq K r (.slice oa r.hs.length cap) w2 H2.out HR.out);unfold xy at RC;clear f2 d0 H1 F1 XW;go_wp2_with fail
 refine RC.out.mono ?_;rintro e w3 ⟨rfl,f3⟩;have F3:=zz (F2.out.tr f3);have X1:=zz ((f3.block _ (zA X1.out) fun h=>h).trans X1.out);have X0:=zz ((f3.block _ (zA X0.out) fun h=>h).trans X0.out);have d1:=fun j=>zB X1.out j
 have d0:=fun j=>zB X0.out j
 have KW:=zz (KW.out.old f3);have CW:=zz (xf _ _ CW.out f3);have LZ:=zz (zSi ks op nm vl (.slice oe ks.len ce) r (.slice oa r.hs.length cap) w3 KW.out (H2.out.old f3) (by have:=HR.out.hs; omega) SM.out CW.out);unfold exV at LZ;unfold xy at LZ;clear f3 F2 RC;go_wp2_with fail
 refine LZ.out.mono ?_;rintro e w4 ⟨rfl,f4⟩;have F4:=zz (F3.out.tr f4);clear f4 LZ;go_wp2_with fail
 go_ret2
 exact ⟨rfl,F4.out⟩
theorem zIf (K K1:Nat→Prop) (op:Int) (nm vl:ByteArray) (ks:Fst) (oe:Option Addr) (ce:Nat) (rs:List Rec) (v:Value) (h:xE K w v rs) (hl:rs.length≤1000) (hs:∀r∈rs,jp r) (hk:xV K1 w (.slice oe ks.len ce) ks) (hw:∀i,K1 i→i < w.heap.size) (hx:xp op nm vl ks=true) (hcw:ja w):
  Calls Tryz.prog 20 #[.agg #[.int .i64 op,.string nm,.string vl,.slice oe ks.len ce],v] w (PickPost w (rs.filter (xo yO op nm vl ks))):=by
 obtain ⟨oa,cap,rfl,h⟩:=h;have H:=zz h;have HS:=zz hs;have f0:=(Fr.same w).alloc (.cells #[.int .i64 op,.string nm,.string vl,.slice oe ks.len ce] 38);have F0:=zz f0;have KW:=zz (hk.old f0);have HWB:=zz (fun i hi=>Nat.lt_of_lt_of_le (hw i hi) f0.size);have CW:=zz (xf _ _ hcw f0);have HXX:=zz hx;have XW:=fun (w':World) (h1:xV K1 w' (.slice oe ks.len ce) ks) (h2:∀i,K1 i→i < w'.heap.size)=>ku (w:=w') op nm vl (.slice oe ks.len ce) ks h1 h2
 unfold exV at XW;have XW:=zz XW;have X0:=zz (zC w (.cells #[.int .i64 op,.string nm,.string vl,.slice oe ks.len ce] 38));have d0:=fun j=>zB X0.out j
 clear h hs f0 hk hw hx hcw;go_enter Tryz.func20,Tryz.ntmps20
 go_wp2_with fail
 generalize (w.alloc (.cells #[.int .i64 op,.string nm,.string vl,.slice oe ks.len ce] 38))=w0 at *;refine (XW.out w0 KW.out HWB.out).mono ?_;rintro e w1 ⟨rfl,f1⟩;rw [HXX.out,if_pos rfl];have KW:=zz (KW.out.old f1);have HWB:=zz (fun i hi=>Nat.lt_of_lt_of_le (HWB.out i hi) f1.size);have CW:=zz (xf _ _ CW.out f1);have F1:=zz (F0.out.tr f1);have X1:=zz ((f1.block _ (zA X0.out) fun h=>h).trans X0.out);clear f1 d0 X0 F0 XW;go_wp2_with fail
 go_loopw [6,16] (fun o i wr=>∃k:Nat,i=.int .i64 k∧k≤rs.length∧zv (fun b=>w1.heap.size≤b) w1.heap.size wr o ((rs.take k).filter (xo yO op nm vl ks))∧Fr (fun _=>False) w1 wr) (fun _ i _=>rs.length - (intOf i).toNat)
 case atStart=>exact ⟨0,rfl,Nat.zero_le _,zv.nil _ _ _,Fr.same _⟩
 case round=>
  obtain ⟨k,rfl,hk,ho,hf⟩:=hrel;have F:=zz (F1.out.tr hf);have G:=zz hf;have O:=zz ho;have X:=zz ((hf.block _ (zA X1.out) fun h=>h).trans X1.out);obtain ⟨cs,hcs⟩:∃cs,cs=(rs.take k).filter (xo yO op nm vl ks):=⟨_,rfl⟩;rw [←hcs] at ho;have O:=zz ho;have HCS:=zz hcs;have CLN:=zz (show cs.length≤k by rw [hcs]; exact Nat.le_trans (List.length_filter_le _ _) (by rw [List.length_take]; omega));have KR:=zz (KW.out.old hf);have CR:=zz (xf _ _ CW.out hf);clear hf ho hcs;rcases Nat.lt_or_ge k rs.length with hlt | hge
  ·obtain ⟨x,hx⟩:=zH hlt
   obtain ⟨a,hv,rfl,-,hc,hr⟩:=H.out k x hx;have hc1:=hc.to (F.out.block _ hc.lt fun h=>h);obtain ⟨c0,c1,c2,c3,c4,c5,c6⟩:=hc1;have hb:=HS.out x (List.mem_of_getElem? hx);have HX:=zz hx;have HBK:=zz hb;obtain ⟨ob,ocap,hob⟩:=O.out.slice;subst hob;obtain ⟨ha,hcap,rfl,-⟩:=id hr;have HR:=zz hr;have fa:=(Fr.same wr).alloc (.cells #[.int .i64 x.at',.int .i64 x.tm,.bool x.bare,.string x.key,.bool x.gone,.string x.val,.slice ha x.hs.length hcap] 95);have xa:=zC wr (.cells #[.int .i64 x.at',.int .i64 x.tm,.bool x.bare,.string x.key,.bool x.gone,.string x.val,.slice ha x.hs.length hcap] 95);have XA:=zz xa;have XX:=zz ((fa.block _ (zA X.out) fun h=>h).trans X.out);have FA:=zz fa;have d0:=fun j=>zB XX.out j
   have OA:=zz (O.out.old fa);have RA:=zz (HR.out.old (F.out.tr fa));have MZ:=zz (zYz (w:=wr.alloc (.cells #[.int .i64 x.at',.int .i64 x.tm,.bool x.bare,.string x.key,.bool x.gone,.string x.val,.slice ha x.hs.length hcap] 95)) K K1 op nm vl ks oe ce x ha x.hs.length hcap RA.out HBK.out (KR.out.old fa) (fun i hi=>Nat.lt_of_lt_of_le (HWB.out i hi) (Nat.le_trans G.out.size fa.size)) HXX.out (xf _ _ CR.out fa) rfl);obtain ⟨lb,hlb⟩:∃lb,lb=xo yO op nm vl ks x:=⟨_,rfl⟩;rw [←hlb] at MZ;have HLB:=zz hlb;clear hlb;unfold xy at MZ;clear hx hc hr hb fa xa;go_wp2_with fail
   generalize (wr.alloc (.cells #[.int .i64 x.at',.int .i64 x.tm,.bool x.bare,.string x.key,.bool x.gone,.string x.val,.slice ha x.hs.length hcap] 95))=w2 at *;refine MZ.out.mono ?_;rintro e w3 ⟨rfl,f3⟩;have F3:=zz (FA.out.tr f3);have F23:=zz f3;have XA:=zz ((f3.block _ (zA XA.out) fun h=>h).trans XA.out);have O3:=zz (OA.out.old f3);have R3:=zz (RA.out.old f3);have d3:=fun j=>zB XA.out j
   have LW:=zz (zA XA.out);have HC:=zz (zNm K x.hs _ w3 R3.out (by have:=HBK.out.hs; omega));clear f3 MZ d0 c0 c1 c2 c3 c4 c5 c6;cases lb with
   | false=>
    have OE:=zz (show (rs.take (k+1)).filter (xo yO op nm vl ks)=cs by rw [zDv HX.out,List.filter_append,←HCS.out]; simp [←HLB.out]);clear HC;go_wp2_with fail
    go_roundw
    case rel=>exact ⟨k+1,by go_num,by omega,by rw [OE.out]; exact O3.out,G.out.tr F3.out⟩
    case measure=>simp [intOf]; omega
   | true=>
    go_wp2_with fail
    refine HC.out.mono ?_;rintro e w4 ⟨hv4,rfl,hr4,f4⟩;obtain ⟨ha4,hcap4,rfl,-⟩:=id hr4;have XA:=zz ((f4.block _ (zA XA.out) fun h=>h).trans XA.out);have F4:=zz (F3.out.tr f4);have O4:=zz (O3.out.old f4);have R4:=zz hr4;have d4:=fun j=>zB XA.out j
    have z4:=fun j=>zd XA.out j
    have x5:=(zE XA.out (o:=6) (.slice ha4 x.hs.length hcap4)).trans (show _=some (.cells #[.int .i64 x.at',.int .i64 x.tm,.bool x.bare,.string x.key,.bool x.gone,.string x.val,.slice ha4 x.hs.length hcap4] 95 (0,0)) from rfl);have f5:Fr (fun i=>i=wr.heap.size) w4 (w4.setCell ⟨wr.heap.size,6,none⟩ (.slice ha4 x.hs.length hcap4)):=(Fr.refl (fun i=>i=wr.heap.size) w4).setCell (p:=⟨wr.heap.size,6,none⟩) (.inl rfl) _;have O4:=zz (((zJh (K':=fun b=>w1.heap.size≤b∧b < wr.heap.size) O.out fun k h1 h2=>⟨h1,h2⟩).old FA.out).old (F23.out.tr f4));have O5:=zz (zJh (K':=fun b=>w1.heap.size≤b) (ownR_fr O4.out f5 (fun k hk e=>by have:=(O.out.lt hk).2; omega) fun k hk e=>by have:=hk.2; omega) fun k hk _=>hk.1);have R5:=zz (R4.out.fr f5 fun k hk e=>by have:=LW.out; omega);have F5:=zz (F4.out.trans (S':=fun i=>i=wr.heap.size) f5 fun i e=>.inr (by omega));have LE:=zz (show w1.heap.size≤wr.heap.size∧wr.heap.size < w3.heap.size∧w3.heap.size≤(w4.setCell ⟨wr.heap.size,6,none⟩ (.slice ha4 x.hs.length hcap4)).heap.size from ⟨G.out.size,LW.out,Nat.le_trans f4.size f5.size⟩);have c5:=fun j=>zB x5 j
    have ha:=fun j=>zD (w4.setCell ⟨wr.heap.size,6,none⟩ (.slice ha4 x.hs.length hcap4)) #[.int .i64 x.at',.int .i64 x.tm,.bool x.bare,.string x.key,.bool x.gone,.string x.val,.slice ha4 x.hs.length hcap4] 95 j
    have sz5:(w4.setCell ⟨wr.heap.size,6,none⟩ (.slice ha4 x.hs.length hcap4)).heap.size=w4.heap.size:=by simp [World.setCell]
    rw [sz5] at ha;have HA:=zz ha;have f6:=(Fr.same (w4.setCell ⟨wr.heap.size,6,none⟩ (.slice ha4 x.hs.length hcap4))).alloc (.cells #[.int .i64 x.at',.int .i64 x.tm,.bool x.bare,.string x.key,.bool x.gone,.string x.val,.slice ha4 x.hs.length hcap4] 95);have O6:=zz (O5.out.old f6);have R6:=zz (R5.out.old f6);have F6:=zz (F5.out.tr f6);have S6:=zz f6.size;clear hr4 f4 x5 f5 HC O4 ha f6 sz5;go_wp2_with (at_builtin; refine kW _ rfl (.tmp 36) (.tmp 38) rfl (fun b=>w1.heap.size≤b) w1.heap.size (.slice ob cs.length ocap) cs rfl O6.out w4.heap.size 1 rfl x (.slice ha4 x.hs.length hcap4) HA.out ?c1 rfl ?c2 ?c3 ?_)
    case c1=>exact R6.out.mono fun b hb _=>⟨by have:=LE.out; omega,fun e=>by have:=(O.out.lt e).2; have:=LE.out; omega⟩
    case c2=>have:=CLN.out; omega
    case c3=>have:=LE.out; have:=S6.out; omega
    intro v7 w7 ho7 hg7 hb7;have hf7:Fr (fun _=>False) w1 w7:=(G.out.tr F6.out).grown hg7 fun k hk=>.inr (O.out.lt hk).1
    rw [show cs++ [x]=(rs.take (k+1)).filter (xo yO op nm vl ks) by rw [zDv HX.out,List.filter_append,←HCS.out]; simp [←HLB.out]] at ho7;have F7:=zz hf7;have O7:=zz ho7;clear hf7 ho7 hg7 hb7;go_wp2_with fail
    go_roundw
    case rel=>exact ⟨k+1,by go_num,by omega,O7.out,F7.out⟩
    case measure=>simp [intOf]; omega
  ·go_wp2_with fail
   go_ret2
   refine ⟨_,rfl,?_,F.out⟩
   have:=O.out
   rw [HCS.out,List.take_of_length_le hge] at this;have hs1:=F1.out.size;exact this.reads (fun b hb _=>by omega) fun b hb _=>by omega
end
end Go.Proofs.YtfdhofabgdkkkaaGreatDoor
