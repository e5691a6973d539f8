/- A part of the proof that what the machine is told keeps its bounds. -/
import Derived.Test.YtfdhofabgdkkkaaGreatDoorJ9
set_option maxHeartbeats 128000000
set_option maxRecDepth 100000
namespace Go.Proofs.YtfdhofabgdkkkaaGreatDoor
open Lib renaming hid→zz
open Go.RowKit Go.Fm Go.BigFrame Go.Shelf
set_option linter.unusedVariables false
set_option linter.unusedSimpArgs false
def us (s:ByteArray) (a e:Int):Obj:=.cells #[.string s,.int .i64 a,.int .i64 e] 367 (0,0)
def kj (s:ByteArray) (a e:Int):Int × Int × Int:=if e=0 then xx s a else (0,a,e)
def ut (s:ByteArray) (a e:Int):ByteArray × Int × Int:=if e=0 then zEm s a 1000 else (ByteArray.empty,a,e)
def zQm (e:Int) (c:Bool):Int:=if e=0 then (if c then 0 else 3) else e
def RdPost (b:Nat) (s:ByteArray) (w:World) (v:Value) (a e:Int) (x:Ending) (w':World):Prop:=x=.returned v∧Fr (fun i=>i=b) w w'∧w'.heap[b]?=some (us s a e)
theorem zJd {w w1:World} {b:Nat} {s:ByteArray} {a e:Int} (hf:Fr (fun _=>False) w w1) (h:w1.heap[b]?=some (us s a e)) (a' e':Int):
  Fr (fun i=>i=b) w ((w1.setCell ⟨b,1,none⟩ (.int .i64 a')).setCell ⟨b,2,none⟩ (.int .i64 e'))∧
  ((w1.setCell ⟨b,1,none⟩ (.int .i64 a')).setCell ⟨b,2,none⟩ (.int .i64 e')).heap[b]?=some (us s a' e'):=by
 refine ⟨Fr.setCell (S:=fun i=>i=b) (p:=⟨b,2,none⟩) (Fr.setCell (S:=fun i=>i=b) (p:=⟨b,1,none⟩) (Fr.mono hf fun _ h=>h.elim) (.inl rfl) _) (.inl rfl) _,?_⟩;rw [zE (zE h _)];rfl
theorem vI (b:Nat) (s:ByteArray) (a e:Int) (w:World) (hs:s.size≤maxLen) (h:w.heap[b]?=some (us s a e)):
  Calls Tryz.prog 247 #[.pointer (some ⟨b,0,none⟩)] w (RdPost b s w (.int .i64 (kj s a e).1) (kj s a e).2.1 (kj s a e).2.2):=by
 have H:=zz h;have c0:w.cell? ⟨b,0,none⟩=some (.string s):=(zB h 0).trans rfl;have c1:w.cell? ⟨b,1,none⟩=some (.int .i64 a):=(zB h 1).trans rfl;have c2:w.cell? ⟨b,2,none⟩=some (.int .i64 e):=(zB h 2).trans rfl;have hg:kj s a e=if e=0 then xx s a else (0,a,e):=rfl
 generalize hr:kj s a e=r at hg ⊢;clear hr;by_cases he:e=0
 ·subst he
  rw [if_pos rfl] at hg;have HG:=zz hg;clear h hg;go_enter Tryz.func247,Tryz.ntmps247
  go_wp2_with fail
  clear c0 c1 c2;have x0:∀y:Lcl.InS (fun w'=>Fr (fun _=>False) w w'),y.w.cell? ⟨b,0,none⟩=some (.string s):=fun y=>y.h.cel ((zB H.out 0).trans rfl)
  have x1:∀y:Lcl.InS (fun w'=>Fr (fun _=>False) w w'),y.w.cell? ⟨b,1,none⟩=some (.int .i64 a):=fun y=>y.h.cel ((zB H.out 1).trans rfl)
  have fget:∀y:Lcl.InS (fun w'=>Fr (fun _=>False) w w'),Calls Tryz.prog 183 #[.string s,.int .i64 a] y.w fun e w'=>e=.returned (.tuple #[.int .i64 r.1,.int .i64 r.2.1,.int .i64 r.2.2])∧∃y:Lcl.InS (fun w'=>Fr (fun _=>False) w w'),w'=y.w:=fun y=>(zDo s a _ hs).mono fun e w' ⟨h1,h2⟩=>⟨by rw [HG.out]; exact h1,⟨y,h2.symm⟩⟩
  refine Lcl.wp_region_part (C:=fun w'=>∃y:Lcl.InS (fun w'=>Fr (fun _=>False) w w'),w'=y.w) (by kernel_rfl) [(true,[0,1]),(false,[2,3,4,5,6,7,8,9,10,11,12]),(true,[13,14])] #[0,0,0,4,12,28,0,64,192,448,1020,2044,4092,4092,4092,8188,49149,114685,245757,524287,1048575,2097151] 7 #[true,true,true,true,true,true,true,true,true,true,true,true,true,true,true,false,false,false,false,false,false,false] (by kernel_rfl) (by kernel_rfl) (by kernel_rfl) ⟨⟨w.drew,(Fr.same w).drew⟩,rfl⟩ (fun d c a v w h=>by cases d <;> exact h) ?_;simp only [Lcl.opsOf,List.map_cons,List.map_nil,List.getElem?_toArray,List.getElem?_cons_succ,List.getElem?_cons_zero,Option.getD_some];refine Lcl.wpSegs_t ?_;repeat (go_big_quiet_step (with_reducible rfl))
  refine wpQuiet_nil ?_;refine Lcl.wpSegs_f ?_;repeat (go_big_quiet_step (first | with_reducible rfl | exact fget _))
  refine wpQuiet_nil ?_;refine Lcl.wpSegs_t ?_;repeat (go_big_quiet_step (with_reducible rfl))
  refine wpQuiet_nil ?_;refine Lcl.wpSegs_nil ?_;rintro _ ⟨y,rfl⟩;clear fget x0 x1;refine Lcl.wpAny_of_G (S:=fun _=>True) (need:=fun j=>([]:List Nat).contains j) _ _ _ _ ?_;refine Lcl.wpG_run (needs:=[]) [15,16,17,18,19,20,21] _ _ _ (by kernel_rfl) ?_;simp only [List.map_cons,List.map_nil,List.getElem?_toArray,List.getElem?_cons_succ,List.getElem?_cons_zero,Option.getD_some];have hy:=(y.h.block _ (zA H.out) fun h=>h).trans H.out;have hf:=y.h;generalize y.w=wy at *;clear y;have HF:=zz (zJd hf hy r.2.1 r.2.2);have d0:wy.cell? ⟨b,0,none⟩=some (.string s):=(zB hy 0).trans rfl;have d1:wy.cell? ⟨b,1,none⟩=some (.int .i64 a):=(zB hy 1).trans rfl;have d2:wy.cell? ⟨b,2,none⟩=some (.int .i64 0):=(zB hy 2).trans rfl;have f1:=zd hy 1;have f2:=zd hy 2;clear hf hy;go_wp2_with fail
  go_ret
  exact ⟨rfl,HF.out⟩
 ·rw [if_neg he] at hg
  have HG:=zz hg;have he':(e == 0)=false:=by simpa using he
  clear h hg;go_enter Tryz.func247,Tryz.ntmps247
  go_wp2_with fail
  go_ret
  exact ⟨by rw [HG.out]; rfl,Fr.refl _ _,by rw [HG.out]; exact H.out⟩
theorem kF (b:Nat) (s:ByteArray) (a e:Int) (w:World) (hs:s.size≤maxLen) (h:w.heap[b]?=some (us s a e)):
  Calls Tryz.prog 248 #[.pointer (some ⟨b,0,none⟩)] w (RdPost b s w (.string (ut s a e).1) (ut s a e).2.1 (ut s a e).2.2):=by
 have H:=zz h;have c0:w.cell? ⟨b,0,none⟩=some (.string s):=(zB h 0).trans rfl;have c1:w.cell? ⟨b,1,none⟩=some (.int .i64 a):=(zB h 1).trans rfl;have c2:w.cell? ⟨b,2,none⟩=some (.int .i64 e):=(zB h 2).trans rfl;have hg:ut s a e=if e=0 then zEm s a 1000 else (ByteArray.empty,a,e):=rfl
 generalize hr:ut s a e=r at hg ⊢;clear hr;by_cases he:e=0
 ·subst he
  rw [if_pos rfl] at hg;have HG:=zz hg;clear h hg;go_enter Tryz.func248,Tryz.ntmps248
  go_wp2_with fail
  clear c0 c1 c2;have x0:∀y:Lcl.InS (fun w'=>Fr (fun _=>False) w w'),y.w.cell? ⟨b,0,none⟩=some (.string s):=fun y=>y.h.cel ((zB H.out 0).trans rfl)
  have x1:∀y:Lcl.InS (fun w'=>Fr (fun _=>False) w w'),y.w.cell? ⟨b,1,none⟩=some (.int .i64 a):=fun y=>y.h.cel ((zB H.out 1).trans rfl)
  have fget:∀y:Lcl.InS (fun w'=>Fr (fun _=>False) w w'),Calls Tryz.prog 187 #[.string s,.int .i64 a,.int .i64 1000] y.w fun e w'=>e=.returned (.tuple #[.string r.1,.int .i64 r.2.1,.int .i64 r.2.2])∧∃y:Lcl.InS (fun w'=>Fr (fun _=>False) w w'),w'=y.w:=fun y=>(zQa s a 1000 _ hs).mono fun e w' ⟨h1,h2⟩=>⟨by rw [HG.out]; exact h1,⟨y,h2.symm⟩⟩
  refine Lcl.wp_region_part (C:=fun w'=>∃y:Lcl.InS (fun w'=>Fr (fun _=>False) w w'),w'=y.w) (by kernel_rfl) [(true,[0,1]),(false,[2,3,4,5,6,7,8,9,10,11,12]),(true,[13,14])] #[0,0,0,4,12,28,0,64,192,448,1020,2044,4092,4092,4092,8188,49149,114685,245757,524287,1048575,2097151] 7 #[true,true,true,true,true,true,true,true,true,true,true,true,true,true,true,false,false,false,false,false,false,false] (by kernel_rfl) (by kernel_rfl) (by kernel_rfl) ⟨⟨w.drew,(Fr.same w).drew⟩,rfl⟩ (fun d c a v w h=>by cases d <;> exact h) ?_;simp only [Lcl.opsOf,List.map_cons,List.map_nil,List.getElem?_toArray,List.getElem?_cons_succ,List.getElem?_cons_zero,Option.getD_some];refine Lcl.wpSegs_t ?_;repeat (go_big_quiet_step (with_reducible rfl))
  refine wpQuiet_nil ?_;refine Lcl.wpSegs_f ?_;repeat (go_big_quiet_step (first | with_reducible rfl | exact fget _))
  refine wpQuiet_nil ?_;refine Lcl.wpSegs_t ?_;repeat (go_big_quiet_step (with_reducible rfl))
  refine wpQuiet_nil ?_;refine Lcl.wpSegs_nil ?_;rintro _ ⟨y,rfl⟩;clear fget x0 x1;refine Lcl.wpAny_of_G (S:=fun _=>True) (need:=fun j=>([]:List Nat).contains j) _ _ _ _ ?_;refine Lcl.wpG_run (needs:=[]) [15,16,17,18,19,20,21] _ _ _ (by kernel_rfl) ?_;simp only [List.map_cons,List.map_nil,List.getElem?_toArray,List.getElem?_cons_succ,List.getElem?_cons_zero,Option.getD_some];have hy:=(y.h.block _ (zA H.out) fun h=>h).trans H.out;have hf:=y.h;generalize y.w=wy at *;clear y;have HF:=zz (zJd hf hy r.2.1 r.2.2);have d0:wy.cell? ⟨b,0,none⟩=some (.string s):=(zB hy 0).trans rfl;have d1:wy.cell? ⟨b,1,none⟩=some (.int .i64 a):=(zB hy 1).trans rfl;have d2:wy.cell? ⟨b,2,none⟩=some (.int .i64 0):=(zB hy 2).trans rfl;have f1:=zd hy 1;have f2:=zd hy 2;clear hf hy;go_wp2_with fail
  go_ret
  exact ⟨rfl,HF.out⟩
 ·rw [if_neg he] at hg
  have HG:=zz hg;have he':(e == 0)=false:=by simpa using he
  clear h hg;go_enter Tryz.func248,Tryz.ntmps248
  go_wp2_with fail
  go_ret
  exact ⟨by rw [HG.out]; rfl,Fr.refl _ _,by rw [HG.out]; exact H.out⟩
theorem zJe (b:Nat) (s:ByteArray) (a e:Int) (c:Bool) (w:World) (h:w.heap[b]?=some (us s a e)):
  Calls Tryz.prog 249 #[.pointer (some ⟨b,0,none⟩),.bool c] w fun x w'=>x=.returned (.tuple #[])∧Fr (fun i=>i=b) w w'∧w'.heap[b]?=some (us s a (zQm e c)):=by
 have H:=zz h;have c2:w.cell? ⟨b,2,none⟩=some (.int .i64 e):=(zB h 2).trans rfl;have f2:=zd h 2;have HF:Hid (Fr (fun i=>i=b) w (w.setCell ⟨b,2,none⟩ (.int .i64 3))∧(w.setCell ⟨b,2,none⟩ (.int .i64 3)).heap[b]?=some (us s a 3)):=by
  refine zz ⟨Fr.setCell (S:=fun i=>i=b) (p:=⟨b,2,none⟩) (Fr.refl _ w) (.inl rfl) _,?_⟩;rw [zE h];rfl
 clear h;by_cases he:e=0
 ·subst he
  cases c with
  | true=>
   go_enter Tryz.func249,Tryz.ntmps249
   go_wp2_with fail
   go_end0
   exact ⟨rfl,Fr.refl _ _,H.out⟩
  | false=>
   go_enter Tryz.func249,Tryz.ntmps249
   go_wp2_with fail
   go_end0
   exact ⟨rfl,HF.out⟩
 ·have he':(e == 0)=false:=by simpa using he
  have HE:Hid (zQm e c=e):=zz (by unfold zQm; rw [if_neg he]);go_enter Tryz.func249,Tryz.ntmps249
  go_wp2_with fail
  go_end0
  exact ⟨rfl,Fr.refl _ _,by rw [HE.out]; exact H.out⟩
end Go.Proofs.YtfdhofabgdkkkaaGreatDoor
/- What Encode has written reads back: plain laws. -/
namespace Go.Proofs.YtfdhofabgdkkkaaGreatDoor
open Lib renaming hid→zz
open Go.RowKit Go.Fm Go.BigFrame
set_option linter.unusedVariables false
set_option linter.unusedSimpArgs false
theorem zGr (m:Nat):1≤(yo m).length:=by
 rw [yo]; split <;> simp
theorem zVr (rest:List UInt8):∀(f m:Nat),(yo m).length≤f→zCf f (yo m++rest)=(yo m).length - 1:=by
 intro f;induction f with
 | zero=>intro m h; have:=zGr m; omega
 | succ f ih=>
  intro m h;by_cases hm:m < 128
  ·rw [zq hm]
   simp only [List.cons_append,List.nil_append,zCf,List.length_cons,List.length_nil];rw [yH (by omega),if_neg (by omega)]
  ·rw [yu (by omega)] at h ⊢
   simp only [List.length_cons] at h;simp only [List.cons_append,zCf,List.length_cons];rw [yH (by omega),if_pos (by omega),ih (m / 128) (by omega)]
   have:=zGr (m / 128)
   omega
theorem zVs (n:Int):vb (zig n)=n:=by
 unfold vb zig;split <;> split <;> omega
theorem putL_ten {n:Int} (h:(Lit.int .i64 n).wf=true):(yo (zig n)).length≤10:=
 ul 9 (zig n) (Nat.lt_of_lt_of_le (kg h) (by decide))
theorem zVt {n:Int} (h:(Lit.int .i64 n).wf=true) (rest:List UInt8):vc (yo (zig n)++rest)=(n,(yo (zig n)).length,0):=by
 have h10:=putL_ten h;have h1:=zGr (zig n);have hl:=zVr rest 10 (zig n) h10;have hz:=kg h;unfold vc;dsimp only;rw [hl,if_neg (by omega),if_neg (by simp; omega)];have e:(yo (zig n)).length - 1+1=(yo (zig n)).length:=by omega
 rw [e];have e2:(yo (zig n)++rest).take (yo (zig n)).length=yo (zig n):=by simp
 rw [e2,zMo,Nat.mod_eq_of_lt hz,if_pos rfl,zVs]
theorem zVu (n:Int):(zM n).data.toList=yo (zig n):=rfl
theorem xg (s:ByteArray):s.data.toList.length=s.size:=Array.length_toList
theorem zNg (n:Int):(zM n).size=(yo (zig n)).length:=by
 have:=congrArg List.length (zVu n)
 rw [xg] at this;exact this
theorem yx (a b:ByteArray):(a++b).data.toList=a.data.toList++b.data.toList:=by simp
theorem zDw {a b:ByteArray} (h:a.data.toList=b.data.toList):a=b:=by
 cases a; cases b
 simpa using congrArg List.toArray h
theorem zLe (s:ByteArray) (i j:Nat):(s.extract i j).data.toList=(s.data.toList.take j).drop i:=by
 simp [ByteArray.data_extract,Array.toList_extract,List.extract,List.drop_take]
structure Pt (s:ByteArray) (p:Nat) (l:List UInt8):Prop where
 le:p≤s.size
 dr:s.data.toList.drop p=l
theorem Pt.len {s:ByteArray} {p:Nat} {l:List UInt8} (h:Pt s p l):s.size=p+l.length:=by
 have h1:=h.le
 have:=congrArg List.length h.dr
 rw [List.length_drop,xg] at this;omega
theorem Pt.skip {s:ByteArray} {p:Nat} {a b:List UInt8} (h:Pt s p (a++b)):Pt s (p+a.length) b:=by
 refine ⟨by have:=h.len; rw [List.length_append] at this; omega,?_⟩;rw [←List.drop_drop,h.dr,List.drop_append_of_le_length (Nat.le_refl _),List.drop_length,List.nil_append]
theorem Pt.cut {s:ByteArray} {p:Nat} {a b:List UInt8} (h:Pt s p (a++b)):(s.extract p (p+a.length)).data.toList=a:=by
 rw [zLe,List.drop_take,h.dr,Nat.add_sub_cancel_left,List.take_append_of_le_length (Nat.le_refl _),List.take_length]
theorem zEs {s:ByteArray} {p:Nat} {n:Int} {rest:List UInt8} (h:(Lit.int .i64 n).wf=true) (hs:Pt s p ((zM n).data.toList++rest)):
  xx s p=(n,((p+(zM n).size:Nat):Int),0):=by
 rw [zNg,zCg s p hs.le (n:=n) (k:=(yo (zig n)).length) (c:=0) (by rw [zKv,hs.dr]; exact zVt h rest),if_pos rfl,Int.natCast_add]
theorem takePt {s t:ByteArray} {p:Nat} {rest:List UInt8} (ht:t.size≤1000) (hs:Pt s p ((zI t).data.toList++rest)):
  zEm s p 1000=(t,((p+(zI t).size:Nat):Int),0):=by
 have hwf:(Lit.int .i64 (t.size:Int)).wf=true:=vT (by omega);have hs':Pt s p ((zM t.size).data.toList++(t.data.toList++rest)):=⟨hs.le,by
  rw [hs.dr]; unfold zI; rw [yx,List.append_assoc]⟩
 have hg:=zEs hwf hs';have hsz:(zI t).size=(zM t.size).size+t.size:=by unfold zI; rw [ByteArray.size_append]
 have hlen:=hs.len;rw [List.length_append,xg] at hlen;have h3:=hs'.skip;rw [xg] at h3;have hc:=h3.cut;rw [xg] at hc;unfold zEm;rw [hg];dsimp only;rw [if_neg (by simp),if_neg (by omega),if_neg (by omega)];have e1:((p+(zM t.size).size:Nat):Int).toNat=p+(zM t.size).size:=Int.toNat_natCast _;have e2:(((p+(zM t.size).size:Nat):Int)+(t.size:Int)).toNat=p+(zM t.size).size+t.size:=by omega
 rw [e1,e2];congr 1
 ·exact zDw hc
 ·rw [hsz]; simp; omega
theorem zVv (n:Nat):(zGj n).data.toList=fixL n:=rfl
theorem readPt {s:ByteArray} {p:Nat} {n:Nat} {rest:List UInt8} (hn:n < 4294967296) (hs:Pt s p ((zGj n).data.toList++rest)):kX s p=((n:Int),((p+4:Nat):Int),0):=by
 have hlen:=hs.len;rw [List.length_append,xg,jG] at hlen;unfold kX;rw [if_neg (by omega),if_neg (by omega)];have hb:be4 s (p:Int).toNat=n:=by
  unfold be4;rw [Int.toNat_natCast,hs.dr,zVv];unfold fixL;simp only [List.cons_append,List.nil_append,List.take_succ_cons,List.take_zero,List.foldl_cons,List.foldl_nil];rw [yH (by omega),yH (by omega),yH (by omega),yH (by omega)];omega
 rw [hb,Int.natCast_add];rfl
def zLf (h:Hdr):List UInt8:=(zI h.key).data.toList++(zI h.val).data.toList
theorem zBs (r:Rec):∀k,k≤r.hs.length→(xR r k).data.toList++(r.hs.drop k).flatMap zLf=(jP r).data.toList++r.hs.flatMap zLf
 | 0,_=>by rw [List.drop_zero]; rfl
 | k+1,hk=>by
  obtain ⟨x,hx⟩:=zH (show k < r.hs.length by omega);rw [←zBs r k (by omega)];simp only [xR,hx];have hd:r.hs.drop k=x::r.hs.drop (k+1):=by
   rw [List.drop_eq_getElem_cons (show k < r.hs.length by omega)];congr 1
   exact (List.getElem?_eq_some_iff.1 hx).2
  rw [hd,List.flatMap_cons,yx,yx];unfold zLf;simp only [List.append_assoc]
theorem zJf (r:Rec) (k:Nat) (hk:k≤r.hs.length):(vd r).data.toList=(xR r k).data.toList++(r.hs.drop k).flatMap zLf:=by
 rw [zBs r k hk,←zBs r r.hs.length (Nat.le_refl _),List.drop_length,List.flatMap_nil,List.append_nil];rfl
structure RecIs (s:ByteArray) (p:Int) (r:Rec) (p1 p2 p3 p4 p5:Int) (q m:Nat→Int):Prop where
 at':kj s p 0=(r.at',p1,0)
 tm:kj s p1 0=(r.tm,p2,0)
 fl:kj s p2 0=(xX r,p3,0)
 key:ut s p3 0=(r.key,p4,0)
 val:ut s p4 0=(r.val,p5,0)
 num:kj s p5 0=((r.hs.length:Int),q 0,0)
 hk:∀k h,r.hs[k]?=some h→ut s (q k) 0=(h.key,m k,0)
 hv:∀k h,r.hs[k]?=some h→ut s (m k) 0=(h.val,q (k+1),0)
 last:q r.hs.length=p+((vd r).size:Int)
theorem flags_wf (r:Rec):(Lit.int .i64 (xX r)).wf=true:=by unfold xX; cases r.bare <;> cases r.gone <;> decide
theorem zCm {s:ByteArray} {p:Nat} {n:Int} {rest:List UInt8} (h:(Lit.int .i64 n).wf=true) (hs:Pt s p ((zM n).data.toList++rest)):kj s p 0=(n,((p+(zM n).size:Nat):Int),0):=by
 unfold kj; rw [if_pos rfl]; exact zEs h hs
theorem zAq {s t:ByteArray} {p:Nat} {rest:List UInt8} (h:t.size≤1000) (hs:Pt s p ((zI t).data.toList++rest)):ut s p 0=(t,((p+(zI t).size:Nat):Int),0):=by
 unfold ut; rw [if_pos rfl]; exact takePt h hs
theorem recIs_of {s:ByteArray} {p:Nat} {r:Rec} {rest:List UInt8} (hr:jp r) (hs:Pt s p ((vd r).data.toList++rest)):∃p1 p2 p3 p4 p5 q m,RecIs s p r p1 p2 p3 p4 p5 q m:=by
 have wa:(Lit.int .i64 r.at').wf=true:=by have:=hr.at0; have:=hr.at1; simp [Lit.wf,IntKind.min,IntKind.max,IntKind.signed,IntKind.bits]; omega
 have wt:(Lit.int .i64 r.tm).wf=true:=by have:=hr.tm0; have:=hr.tm1; simp [Lit.wf,IntKind.min,IntKind.max,IntKind.signed,IntKind.bits]; omega
 have wl:(Lit.int .i64 (r.hs.length:Int)).wf=true:=vT (by have:=hr.hs; omega);have h0:Pt s p ((zM r.at').data.toList++((zM r.tm).data.toList++((zM (xX r)).data.toList++((zI r.key).data.toList++((zI r.val).data.toList++((zM r.hs.length).data.toList++(r.hs.flatMap zLf++rest))))))):=⟨hs.le,by
  rw [hs.dr,zJf r 0 (Nat.zero_le _),List.drop_zero]
  show (jP r).data.toList++_++rest=_
  unfold jP;simp only [yx,List.append_assoc]⟩
 have h1:=h0.skip;have h2:=h1.skip;have h3:=h2.skip;have h4:=h3.skip;have h5:=h4.skip;simp only [xg] at h1 h2 h3 h4 h5;have hq:∀k,k≤r.hs.length→Pt s (p+(xR r k).size) ((r.hs.drop k).flatMap zLf++rest):=fun k hk=>by
  have h9:Pt s p ((xR r k).data.toList++((r.hs.drop k).flatMap zLf++rest)):=⟨hs.le,by rw [hs.dr,zJf r k hk,List.append_assoc]⟩;have h10:=h9.skip;rwa [xg] at h10
 have hhead:(xR r 0).size=(zM r.at').size+(zM r.tm).size+(zM (xX r)).size+(zI r.key).size+(zI r.val).size+(zM r.hs.length).size:=by
  show (jP r).size=_
  unfold jP;rw [ByteArray.size_append,ByteArray.size_append,ByteArray.size_append,ByteArray.size_append,ByteArray.size_append]
 have hst:∀k h,r.hs[k]?=some h→Pt s (p+(xR r k).size) ((zI h.key).data.toList++((zI h.val).data.toList++((r.hs.drop (k+1)).flatMap zLf++rest)))∧(xR r (k+1)).size=(xR r k).size+(zI h.key).size+(zI h.val).size:=fun k h hk=>by
  have hlt:=(List.getElem?_eq_some_iff.1 hk).1;have hd:r.hs.drop k=h::r.hs.drop (k+1):=by
   rw [List.drop_eq_getElem_cons hlt];congr 1
   exact (List.getElem?_eq_some_iff.1 hk).2
  have h9:=hq k (by omega);rw [hd,List.flatMap_cons] at h9;refine ⟨⟨h9.le,?_⟩,?_⟩
  ·rw [h9.dr]
   unfold zLf;simp only [List.append_assoc]
  ·simp only [xR,hk]
   rw [ByteArray.size_append,ByteArray.size_append]
 have g0:=zCm wa h0;have g1:=zCm wt h1;have g2:=zCm (flags_wf r) h2;have g3:=zAq hr.key h3;have g4:=zAq hr.val h4;have g5:=zCm wl h5;have e5:p+(zM r.at').size+(zM r.tm).size+(zM (xX r)).size+(zI r.key).size+(zI r.val).size+(zM r.hs.length).size=p+(xR r 0).size:=by omega
 rw [e5] at g5;refine ⟨_,_,_,_,_,fun k=>((p+(xR r k).size:Nat):Int),fun k=>((p+(xR r k).size+(zI ((r.hs[k]?).getD ⟨ByteArray.empty,ByteArray.empty⟩).key).size:Nat):Int),⟨g0,g1,g2,g3,g4,g5,fun k h hk=>?_,fun k h hk=>?_,?_⟩⟩
 ·have:=(hr.hdrs h (List.mem_of_getElem? hk)).2.1
  rw [hk];exact zAq this (hst k h hk).1
 ·have h9:=(hr.hdrs h (List.mem_of_getElem? hk)).2.2
  obtain ⟨h10,h11⟩:=hst k h hk;have h12:=h10.skip;rw [xg] at h12;have g9:=zAq h9 h12;rw [hk];dsimp only [Option.getD_some];rw [g9,show p+(xR r (k+1)).size=p+(xR r k).size+(zI h.key).size+(zI h.val).size by omega]
 ·unfold vd
  rw [Int.natCast_add]
def zQn (r:Rec):List UInt8:=(vd r).data.toList
theorem kk (b:Bat):∀k,k≤b.recs.length→(xU b k).data.toList++(b.recs.drop k).flatMap zQn=(ve b).data.toList++b.recs.flatMap zQn
 | 0,_=>by rw [List.drop_zero]; rfl
 | k+1,hk=>by
  obtain ⟨x,hx⟩:=zH (show k < b.recs.length by omega);rw [←kk b k (by omega)];simp only [xU,hx];have hd:b.recs.drop k=x::b.recs.drop (k+1):=by
   rw [List.drop_eq_getElem_cons (show k < b.recs.length by omega)];congr 1
   exact (List.getElem?_eq_some_iff.1 hx).2
  rw [hd,List.flatMap_cons,yx];unfold zQn;simp only [List.append_assoc]
theorem zGs (b:Bat) (k:Nat) (hk:k≤b.recs.length):(xN b).data.toList=(xU b k).data.toList++(b.recs.drop k).flatMap zQn:=by
 rw [kk b k hk,←kk b b.recs.length (Nat.le_refl _),List.drop_length,List.flatMap_nil,List.append_nil];rfl
structure BodyIs (s:ByteArray) (b:Bat) (p1 p2 p3 p4 p5:Int) (q:Nat→Nat):Prop where
 base:xx s (0:Int)=(b.base,p1,0)
 span:xx s p1=(b.span,p2,0)
 prod:xx s p2=(b.prod,p3,0)
 epoch:xx s p3=(b.epoch,p4,0)
 seq:xx s p4=(b.seq,p5,0)
 num:xx s p5=((b.recs.length:Int),(q 0:Int),0)
 each:∀k r,b.recs[k]?=some r→(∃p1 p2 p3 p4 p5 q' m,RecIs s (q k) r p1 p2 p3 p4 p5 q' m)∧q (k+1)=q k+(vd r).size
 last:q b.recs.length=s.size
theorem zVw {b:Bat} (hb:xO b):∃p1 p2 p3 p4 p5 q,BodyIs (xN b) b p1 p2 p3 p4 p5 q:=by
 have NU:=zTe hb.base0 hb.base1 hb.span0 hb.span1 hb.who hb.len;have wl:(Lit.int .i64 (b.recs.length:Int)).wf=true:=vT (by have:=hb.len; omega);have h0:Pt (xN b) 0 ((zM b.base).data.toList++((zM b.span).data.toList++((zM b.prod).data.toList++((zM b.epoch).data.toList++((zM b.seq).data.toList++((zM b.recs.length).data.toList++b.recs.flatMap zQn)))))):=⟨Nat.zero_le _,by
  rw [List.drop_zero,zGs b 0 (Nat.zero_le _),List.drop_zero]
  show (ve b).data.toList++_=_
  unfold ve;simp only [yx,List.append_assoc]⟩
 have h1:=h0.skip;have h2:=h1.skip;have h3:=h2.skip;have h4:=h3.skip;have h5:=h4.skip;simp only [xg] at h1 h2 h3 h4 h5;have hq:∀k,k≤b.recs.length→Pt (xN b) (xU b k).size ((b.recs.drop k).flatMap zQn):=fun k hk=>by
  have h9:Pt (xN b) 0 ((xU b k).data.toList++(b.recs.drop k).flatMap zQn):=⟨Nat.zero_le _,by rw [List.drop_zero,zGs b k hk]⟩;have h10:=h9.skip;rwa [xg,Nat.zero_add] at h10
 have hhead:(xU b 0).size=(zM b.base).size+(zM b.span).size+(zM b.prod).size+(zM b.epoch).size+(zM b.seq).size+(zM b.recs.length).size:=by
  show (ve b).size=_
  unfold ve;rw [ByteArray.size_append,ByteArray.size_append,ByteArray.size_append,ByteArray.size_append,ByteArray.size_append]
 have g0:=zEs NU.base h0;have g1:=zEs NU.span h1;have g2:=zEs NU.prod h2;have g3:=zEs NU.epoch h3;have g4:=zEs NU.seq h4;have g5:=zEs wl h5;have e5:0+(zM b.base).size+(zM b.span).size+(zM b.prod).size+(zM b.epoch).size+(zM b.seq).size+(zM b.recs.length).size=(xU b 0).size:=by omega
 rw [e5] at g5;refine ⟨_,_,_,_,_,fun k=>(xU b k).size,⟨g0,g1,g2,g3,g4,g5,fun k r hk=>?_,rfl⟩⟩;have hlt:=(List.getElem?_eq_some_iff.1 hk).1;have hd:b.recs.drop k=r::b.recs.drop (k+1):=by
  rw [List.drop_eq_getElem_cons hlt];congr 1
  exact (List.getElem?_eq_some_iff.1 hk).2
 have h9:=hq k (by omega);rw [hd,List.flatMap_cons] at h9;refine ⟨recIs_of (hb.recs k r hk).ok h9,?_⟩;simp only [xU,hk];rw [ByteArray.size_append]
theorem zJg (b:Bat):(ye b).size=8+(xN b).size:=by
 unfold ye;rw [ByteArray.size_append,ByteArray.size_append,jG,jG]
structure BatIs (s:ByteArray) (p:Nat) (b:Bat):Prop where
 r1:kX s p=(((xN b).size:Int),((p+4:Nat):Int),0)
 r2:kX s ((p+4:Nat):Int)=(((zDp (xN b)).toNat:Int),((p+8:Nat):Int),0)
 room:p+8+(xN b).size≤s.size
 cut:s.extract (p+8) (p+8+(xN b).size)=xN b
theorem batIs_of {s:ByteArray} {p:Nat} {b:Bat} {rest:List UInt8} (hb:xO b) (hs:Pt s p ((ye b).data.toList++rest)):BatIs s p b:=by
 have h0:Pt s p ((zGj (xN b).size).data.toList++((zGj (zDp (xN b)).toNat).data.toList++((xN b).data.toList++rest))):=⟨hs.le,by
  rw [hs.dr]; unfold ye; simp only [yx,List.append_assoc]⟩
 have h1:=h0.skip;have h2:=h1.skip;simp only [xg,jG] at h1 h2;have hn:=hb.body;have hsum:=zKz (xN b);have hl:=h2.len;rw [List.length_append,xg] at hl;have hc:=h2.cut;rw [xg] at hc;exact ⟨readPt (by omega) h0,readPt (by omega) h1,by omega,zDw hc⟩
end Go.Proofs.YtfdhofabgdkkkaaGreatDoor
