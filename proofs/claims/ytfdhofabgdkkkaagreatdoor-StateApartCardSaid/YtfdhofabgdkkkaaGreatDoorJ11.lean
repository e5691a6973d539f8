/- A part of the proof that what the machine is told keeps its bounds. -/
import Derived.Test.YtfdhofabgdkkkaaGreatDoorJ10
set_option maxHeartbeats 128000000
set_option maxRecDepth 100000
namespace Go.Proofs.YtfdhofabgdkkkaaGreatDoor
open Lib renaming hid→zz
open Go.RowKit Go.Fm Go.BigFrame Go.Shelf Go.Maps
set_option linter.unusedVariables false
set_option linter.unusedSimpArgs false
section
variable {w w':World} {hb:Nat} {ep:Int} {r:List Int} {f c:Nat} {S:Nat→Prop}
def wrR (r:List Int) (p:Nat) (x y z:Int):List Int:=((r.set (p * 3) x).set (p * 3+1) y).set (p * 3+2) z
theorem zVg (i:Nat) (x:Int) (e f c:Int) (h:r.length=15) (hi:i < 15):(jL e r f c).set (1+i) (.int .i64 x)=jL e (r.set i x) f c:=by
 unfold jL;rw [Nat.add_comm,List.set_cons_succ,List.set_append_left _ _ (by rw [List.length_map]; omega),List.map_set]
theorem hearL_c (e f c c':Int) (h:r.length=15):(jL e r f c).set 17 (.int .i64 c')=jL e r f c':=by
 unfold jL;rw [List.set_cons_succ,List.set_append_right _ _ (by rw [List.length_map]; omega),List.length_map,h];rfl
theorem hearL_f (e f c f':Int) (h:r.length=15):(jL e r f c).set 16 (.int .i64 f')=jL e r f' c:=by
 unfold jL;rw [List.set_cons_succ,List.set_append_right _ _ (by rw [List.length_map]; omega),List.length_map,h];rfl
structure jd (w:World) (hb:Nat) (e:Int) (r:List Int) (f c:Int):Prop where
 b:w.heap[hb]?=some (.cells (jL e r f c).toArray 255 (0,0))
 len:r.length=15
theorem jd.setF {e f c f':Int} (h:jd w hb e r f c):jd (w.setCell ⟨hb,16,none⟩ (.int .i64 f')) hb e r f' c:=
 ⟨(zE h.b _).trans (by rw [List.setIfInBounds_toArray,hearL_f _ _ _ _ h.len]),h.len⟩
theorem jd.setC {e f c f':Int} (h:jd w hb e r f c):jd (w.setCell ⟨hb,17,none⟩ (.int .i64 f')) hb e r f f':=
 ⟨(zE h.b _).trans (by rw [List.setIfInBounds_toArray,hearL_c _ _ _ _ h.len]),h.len⟩
theorem jd.setR {e f c x:Int} (h:jd w hb e r f c) (i:Nat) (hi:i < 15):jd (w.setCell ⟨hb,1+i,none⟩ (.int .i64 x)) hb e (r.set i x) f c:=
 ⟨(zE h.b _).trans (by rw [List.setIfInBounds_toArray,zVg _ _ _ _ _ h.len hi]),by rw [List.length_set]; exact h.len⟩
theorem jd.get {e f c:Int} (h:jd w hb e r f c) (i:Nat) (hi:i < 15):(∃v,w.cell? ⟨hb,1+i,none⟩=some v)∧w.frozen? ⟨hb,1+i,none⟩=false:=by
 refine ⟨?_,zd h.b _⟩;obtain ⟨n,hn⟩:=zH (show i < r.length by have:=h.len; omega);refine ⟨.int .i64 n,(zB h.b _).trans ?_⟩;rw [List.getElem?_toArray];unfold jL;rw [Nat.add_comm,List.getElem?_cons_succ,List.getElem?_append_left (by rw [List.length_map]; have:=h.len; omega),List.getElem?_map,hn];rfl
theorem jd.c17 {e f c:Int} (h:jd w hb e r f c):w.cell? ⟨hb,17,none⟩=some (.int .i64 c)∧w.frozen? ⟨hb,17,none⟩=false:=by
 refine ⟨(zB h.b _).trans ?_,zd h.b _⟩;rw [List.getElem?_toArray];unfold jL;rw [List.getElem?_cons_succ,List.getElem?_append_right (by rw [List.length_map,h.len]; omega),List.length_map,h.len];rfl
theorem jd.c16 {e f c:Int} (h:jd w hb e r f c):w.cell? ⟨hb,16,none⟩=some (.int .i64 f)∧w.frozen? ⟨hb,16,none⟩=false:=by
 refine ⟨(zB h.b _).trans ?_,zd h.b _⟩;rw [List.getElem?_toArray];unfold jL;rw [List.getElem?_cons_succ,List.getElem?_append_right (by rw [List.length_map,h.len]; omega),List.length_map,h.len];rfl
theorem xc.B (h:xc w hb ep r f c):jd w hb ep r f c:=⟨h.b,h.len⟩
def w3R (w:World) (hb p:Nat) (x y z:Int):World:=((w.setCell ⟨hb,1+p * 3,none⟩ (.int .i64 x)).setCell ⟨hb,1+p * 3+1,none⟩ (.int .i64 y)).setCell ⟨hb,1+p * 3+2,none⟩ (.int .i64 z)
theorem jd.three {e f c x y z:Int} (h:jd w hb e r f c) (p:Nat) (hp:p < 5):jd (w3R w hb p x y z) hb e (wrR r p x y z) f c:=
 ((h.setR (p * 3) (by omega)).setR (p * 3+1) (by omega)).setR (p * 3+2) (by omega)
theorem w3R_fr (w:World) (hb p:Nat) (x y z:Int):Fr (fun i=>i=hb) w (w3R w hb p x y z):=
 (((Fr.refl (fun i=>i=hb) w).setCell (p:=⟨hb,1+p * 3,none⟩) (.inl rfl) _).setCell (p:=⟨hb,1+p * 3+1,none⟩) (.inl rfl) _).setCell (p:=⟨hb,1+p * 3+2,none⟩) (.inl rfl) _
theorem zVh (h:xc w hb ep r f c) (hc:c < 5) (x y z:Int):Calls Tryz.prog 138 #[.pointer (some ⟨hb,0,none⟩),.agg #[.int .i64 x,.int .i64 y,.int .i64 z]] w fun e w'=>e=.returned (.tuple #[])∧xc w' hb ep (wrR r ((f+c) % 5) x y z) f (c+1)∧Fr (fun i=>i=hb) w w':=by
 have f1:=(Fr.same w).alloc (.cells #[.int .i64 x,.int .i64 y,.int .i64 z] 252);have x1:=zC w (.cells #[.int .i64 x,.int .i64 y,.int .i64 z] 252);have F1:=zz f1;have X1:=zz x1;have hlt:=zA h.b;have HL:=zz hlt;have H1:=zz (h.old f1);have c5:=H1.out.count;clear f1 x1 hlt h;go_enter Tryz.func138,Tryz.ntmps138
 go_wp2_with fail
 generalize hw1:(w.alloc (.cells #[.int .i64 x,.int .i64 y,.int .i64 z] 252))=w1 at *;clear hw1;have z0:∀q:Lcl.InS (fun w'=>Fr (fun _=>False) w1 w'),q.w.cell? ⟨hb,17,none⟩=some (.int .i64 (c:Nat)):=fun q=>q.h.cel H1.out.count
 have z1:∀q:Lcl.InS (fun w'=>Fr (fun _=>False) w1 w'),q.w.cell? ⟨w.heap.size,0,none⟩=some (.int .i64 x):=fun q=>q.h.cel ((zB X1.out 0).trans rfl)
 have z2:∀q:Lcl.InS (fun w'=>Fr (fun _=>False) w1 w'),q.w.cell? ⟨w.heap.size,1,none⟩=some (.int .i64 y):=fun q=>q.h.cel ((zB X1.out 1).trans rfl)
 have z3:∀q:Lcl.InS (fun w'=>Fr (fun _=>False) w1 w'),q.w.cell? ⟨w.heap.size,2,none⟩=some (.int .i64 z):=fun q=>q.h.cel ((zB X1.out 2).trans rfl)
 refine Lcl.wp_region_calm (by kernel_rfl) [(true,[0,1,2,3]),(false,[4,6])] #[0,0,2,6,14,31,0,127,255] [0,1,2,3,4,5,6] 3 #[true,true,true,true,true,false,true,false,false] (by kernel_rfl) (by kernel_rfl) (by kernel_rfl) (fun w'=>Fr (fun _=>False) w1 w') (Fr.same w1).drew (fun d c a v w h=>by cases d <;> exact h) ?_;simp only [Lcl.opsOf,List.map_cons,List.map_nil,List.getElem?_toArray,List.getElem?_cons_succ,List.getElem?_cons_zero,Option.getD_some];refine Lcl.wpCalm_t ?_;repeat (go_big_quiet_step (rfl))
 refine wpQuiet_nil ?_;refine Lcl.wpCalm_f ?_;repeat (go_big_quiet_step (rfl))
 refine wpQuiet_nil ?_;refine Lcl.wpCalm_nil ?_;refine Lcl.wpG_one 5 rfl (by kernel_rfl) ?_;clear z0 z1 z2 z3;have F2:=zz F1.out.drew;have H2:=zz (H1.out.old (Fr.same w1).drew);have hs2:w1.heap.size≤w1.drew.heap.size:=Nat.le_refl _;have F12:=zz (Fr.same w1).drew;clear c5 X1 F1 H1 hs2;generalize w1.drew=w2 at *;have HW:=zz (zCi H2.out c (by omega));go_wp2_with fail
 refine HW.out.mono ?_;rintro e w3 ⟨rfl,hf3⟩;have F3:=zz (F2.out.tr hf3);have F13:=zz (F12.out.tr hf3);have H3:=zz (H2.out.old hf3);clear hf3 HW;go_wp2_with fail
 refine ⟨fun _ _=>F13.out,?_⟩;refine Lcl.wpG_run [7,8] _ _ _ (by kernel_rfl) ?_;simp only [List.map_cons,List.map_nil,List.getElem?_toArray,List.getElem?_cons_succ,List.getElem?_cons_zero,Option.getD_some];have HB:=zz H3.out.B;have hp:(f+c) % 5 < 5:=Nat.mod_lt _ (by omega);have HP:=zz hp;clear hp;generalize hpe:(f+c) % 5=p at *;have HPE:=zz hpe;clear hpe;obtain ⟨⟨v0,c0⟩,z0⟩:=HB.out.get (p * 3) (by have:=HP.out; omega);obtain ⟨⟨v1,c1⟩,z1⟩:=(HB.out.setR (x:=x) (p * 3) (by have:=HP.out; omega)).get (p * 3+1) (by have:=HP.out; omega);obtain ⟨⟨v2,c2⟩,z2⟩:=((HB.out.setR (x:=x) (p * 3) (by have:=HP.out; omega)).setR (x:=y) (p * 3+1) (by have:=HP.out; omega)).get (p * 3+2) (by have:=HP.out; omega);have HB3:=zz (HB.out.three (x:=x) (y:=y) (z:=z) p HP.out);have F4:=zz (w3R_fr w3 hb p x y z);unfold w3R at HB3 F4;obtain ⟨c3,z3⟩:=HB3.out.c17;rw [←Nat.add_assoc] at c1 z1 c2 z2;rw [←Nat.add_assoc] at c2 z2;have HB5:=zz (HB3.out.setC (f':=(c:Int)+1));have F5:=zz (F4.out.setCell (p:=⟨hb,17,none⟩) (.inl rfl) (.int .i64 ((c:Int)+1)));have FIN:=zz (F3.out.mono (S':=fun i=>i=hb) fun _ h=>h.elim);clear F3 HB F2 F4;go_wp2_with fail
 go_end0
 rw [HPE.out];refine ⟨rfl,⟨HB5.out.b,HB5.out.len,H3.out.f5,by omega⟩,FIN.out.trans F5.out fun _ h=>.inl h⟩
theorem zVi (h:xc w hb ep r f 5) (x y z:Int):Calls Tryz.prog 138 #[.pointer (some ⟨hb,0,none⟩),.agg #[.int .i64 x,.int .i64 y,.int .i64 z]] w fun e w'=>e=.returned (.tuple #[])∧xc w' hb ep (wrR r (((f+1) % 5+4) % 5) x y z) ((f+1) % 5) 5∧Fr (fun i=>i=hb) w w':=by
 have f1:=(Fr.same w).alloc (.cells #[.int .i64 x,.int .i64 y,.int .i64 z] 252);have x1:=zC w (.cells #[.int .i64 x,.int .i64 y,.int .i64 z] 252);have F1:=zz f1;have X1:=zz x1;have hlt:=zA h.b;have HL:=zz hlt;have G0:=zz (h.old f1).B;have f5:=h.f5;have FF5:=zz f5;have hr5:((f:Int)+1).tmod 5=(((f+1) % 5:Nat):Int):=by rw [Int.tmod_eq_emod_of_nonneg (by omega)]; omega
 obtain ⟨c17,q17⟩:=G0.out.c17;obtain ⟨c16,q16⟩:=G0.out.c16;have hf5:(f+1) % 5 < 5:=Nat.mod_lt _ (by omega);have F5L:=zz hf5;have G1:=zz (G0.out.setF (f':=((f:Int)+1) % 5));obtain ⟨d17,e17⟩:=G1.out.c17;have G2:=zz (G1.out.setC (f':=4));have g1:=zz ((Fr.same w).alloc (.cells #[.int .i64 x,.int .i64 y,.int .i64 z] 252));have g3:=zz (((Fr.refl (fun i=>i=hb) (w.alloc (.cells #[.int .i64 x,.int .i64 y,.int .i64 z] 252))).setCell (p:=⟨hb,16,none⟩) (.inl rfl) (.int .i64 (((f:Int)+1) % 5))).setCell (p:=⟨hb,17,none⟩) (.inl rfl) (.int .i64 4));have XX:=zz (show _ from (g3.out.block _ (zA X1.out) (by omega)).trans X1.out);clear f1 x1 hlt h hf5 G0 G1 X1;go_enter Tryz.func138,Tryz.ntmps138
 go_wp2_with fail
 have e5:((f:Int)+1) % 5=(((f+1) % 5:Nat):Int):=by omega
 rw [e5] at G2 g3 XX ⊢;clear c17 q17 c16 q16 d17 e17 hr5 e5 F1;generalize hfe:(f+1) % 5=fn at *;have HFE:=zz hfe;have F1:=zz ((g1.out.mono (S':=fun i=>i=hb) fun _ h=>h.elim).trans g3.out fun _ h=>.inl h);clear hfe g1 g3;generalize hw1:(((w.alloc (.cells #[.int .i64 x,.int .i64 y,.int .i64 z] 252)).setCell ⟨hb,16,none⟩ (.int .i64 (fn:Int))).setCell ⟨hb,17,none⟩ (.int .i64 4))=w1 at *;clear hw1;have H1:=zz (show xc w1 hb ep r fn 4 from ⟨G2.out.b,G2.out.len,F5L.out,by omega⟩);have X1:=XX;clear XX G2;have z0:∀q:Lcl.InS (fun w'=>Fr (fun _=>False) w1 w'),q.w.cell? ⟨hb,17,none⟩=some (.int .i64 (4:Nat)):=fun q=>q.h.cel H1.out.count
 have z1:∀q:Lcl.InS (fun w'=>Fr (fun _=>False) w1 w'),q.w.cell? ⟨w.heap.size,0,none⟩=some (.int .i64 x):=fun q=>q.h.cel ((zB X1.out 0).trans rfl)
 have z2:∀q:Lcl.InS (fun w'=>Fr (fun _=>False) w1 w'),q.w.cell? ⟨w.heap.size,1,none⟩=some (.int .i64 y):=fun q=>q.h.cel ((zB X1.out 1).trans rfl)
 have z3:∀q:Lcl.InS (fun w'=>Fr (fun _=>False) w1 w'),q.w.cell? ⟨w.heap.size,2,none⟩=some (.int .i64 z):=fun q=>q.h.cel ((zB X1.out 2).trans rfl)
 refine Lcl.wp_region_calm (by kernel_rfl) [(true,[0,1,2,3]),(false,[4,6])] #[0,0,2,6,14,31,0,127,255] [0,1,2,3,4,5,6] 3 #[true,true,true,true,true,false,true,false,false] (by kernel_rfl) (by kernel_rfl) (by kernel_rfl) (fun w'=>Fr (fun _=>False) w1 w') (Fr.same w1).drew (fun d c a v w h=>by cases d <;> exact h) ?_;simp only [Lcl.opsOf,List.map_cons,List.map_nil,List.getElem?_toArray,List.getElem?_cons_succ,List.getElem?_cons_zero,Option.getD_some];refine Lcl.wpCalm_t ?_;repeat (go_big_quiet_step (rfl))
 refine wpQuiet_nil ?_;refine Lcl.wpCalm_f ?_;repeat (go_big_quiet_step (rfl))
 refine wpQuiet_nil ?_;refine Lcl.wpCalm_nil ?_;refine Lcl.wpG_one 5 rfl (by kernel_rfl) ?_;clear z0 z1 z2 z3;have F2:=zz F1.out.drew;have H2:=zz (H1.out.old (Fr.same w1).drew);have hs2:w1.heap.size≤w1.drew.heap.size:=Nat.le_refl _;have F12:=zz (Fr.same w1).drew;clear X1 F1 H1 hs2;generalize w1.drew=w2 at *;have HW:=zz (zCi H2.out 4 (by omega));go_wp2_with fail
 refine HW.out.mono ?_;rintro e w3 ⟨rfl,hf3⟩;have F3:=zz (F2.out.trans hf3 fun _ h=>h.elim);have F13:=zz (F12.out.tr hf3);have H3:=zz (H2.out.old hf3);clear hf3 HW;go_wp2_with fail
 refine ⟨fun _ _=>F13.out,?_⟩;refine Lcl.wpG_run [7,8] _ _ _ (by kernel_rfl) ?_;simp only [List.map_cons,List.map_nil,List.getElem?_toArray,List.getElem?_cons_succ,List.getElem?_cons_zero,Option.getD_some];have HB:=zz H3.out.B;have hp:(fn+4) % 5 < 5:=Nat.mod_lt _ (by omega);have HP:=zz hp;clear hp;generalize hpe:(fn+4) % 5=p at *;have HPE:=zz hpe;clear hpe;obtain ⟨⟨v0,c0⟩,z0⟩:=HB.out.get (p * 3) (by have:=HP.out; omega);obtain ⟨⟨v1,c1⟩,z1⟩:=(HB.out.setR (x:=x) (p * 3) (by have:=HP.out; omega)).get (p * 3+1) (by have:=HP.out; omega);obtain ⟨⟨v2,c2⟩,z2⟩:=((HB.out.setR (x:=x) (p * 3) (by have:=HP.out; omega)).setR (x:=y) (p * 3+1) (by have:=HP.out; omega)).get (p * 3+2) (by have:=HP.out; omega);have HB3:=zz (HB.out.three (x:=x) (y:=y) (z:=z) p HP.out);have F4:=zz (w3R_fr w3 hb p x y z);unfold w3R at HB3 F4;obtain ⟨c3,z3⟩:=HB3.out.c17;rw [←Nat.add_assoc] at c1 z1 c2 z2;rw [←Nat.add_assoc] at c2 z2;have HB5:=zz (HB3.out.setC (f':=5));have F5:=zz (F4.out.setCell (p:=⟨hb,17,none⟩) (.inl rfl) (.int .i64 (5)));have FIN:=F3;clear F3 HB F2 F4;go_wp2_with fail
 go_end0
 rw [HFE.out,HPE.out];refine ⟨rfl,⟨HB5.out.b,HB5.out.len,F5L.out,Nat.le_refl _⟩,FIN.out.trans F5.out fun _ h=>.inl h⟩
end
abbrev zDs:=Int × Int × Int
def uq (r:List Int) (f c:Nat):List zDs:=(List.range c).map fun i=>(xI r f i 0,xI r f i 1,xI r f i 2)
def findW (l:List zDs) (b:Bat):Option Int:=(l.reverse.find? fun s=>decide (s.1=b.seq∧s.2.2=b.span)).map (·.2.1)
def nextW (l:List zDs):Int:=match l.getLast? with | none=>0 | some s=>s.1+s.2.2
def zCk (l:List zDs) (s:zDs):List zDs:=(if l.length=5 then l.tail else l)++ [s]
theorem zNb (r:List Int) (f c:Nat):(uq r f c).length=c:=by simp [uq]
theorem zDt (r:List Int) (f c:Nat):uq r f (c+1)=uq r f c++ [(xI r f c 0,xI r f c 1,xI r f c 2)]:=by
 unfold uq;rw [List.range_succ,List.map_append];rfl
theorem zCl (r:List Int) (f:Nat) (b:Bat):∀c,yA r f b c=findW (uq r f c) b
 | 0=>rfl
 | c+1=>by
  unfold yA;rw [zCl r f b c];unfold findW;rw [zDt,List.reverse_append];by_cases h:xI r f c 0=b.seq∧xI r f c 2=b.span
  ·rw [if_pos h]
   simp [h.1,h.2]
  ·rw [if_neg h]
   rw [List.reverse_singleton,List.singleton_append,List.find?_cons_of_neg (by simpa using h)]
theorem zVj (r:List Int) (f c:Nat):zEp r f c=nextW (uq r f c):=by
 unfold zEp nextW;cases c with
 | zero=>rfl
 | succ c=>rw [zDt,List.getLast?_append]; simp
theorem zVk (r:List Int) (p q k:Nat) (x y z:Int) (h:r.length=15) (hp:p < 5) (hk:k < 3):(wrR r p x y z).getD (q * 3+k) 0=if q=p then (if k=0 then x else if k=1 then y else z) else r.getD (q * 3+k) 0:=by
 unfold wrR;simp only [List.getD_eq_getElem?_getD,List.getElem?_set,List.length_set,h];by_cases e:q=p
 ·subst e
  have:k=0∨k=1∨k=2:=by omega
  rcases this with rfl | rfl | rfl
  ·rw [if_neg (by omega),if_neg (by omega),if_pos (by omega),if_pos (by omega)]; simp
  ·rw [if_neg (by omega),if_pos (by omega),if_pos (by omega)]; simp
  ·rw [if_pos (by omega),if_pos (by omega)]; simp
 ·rw [if_neg (by omega),if_neg (by omega),if_neg (by omega),if_neg e]
theorem uL (r:List Int) (p f i k:Nat) (x y z:Int) (h:r.length=15) (hp:p < 5) (hk:k < 3):xI (wrR r p x y z) f i k=if (f+i) % 5=p then (if k=0 then x else if k=1 then y else z) else xI r f i k:=by
 unfold xI;rw [zVk r p _ k x y z h hp hk]
theorem zNc (r:List Int) (f c:Nat) (x y z:Int) (h:r.length=15) (hc:c < 5):uq (wrR r ((f+c) % 5) x y z) f (c+1)=uq r f c++ [(x,y,z)]:=by
 have hp:(f+c) % 5 < 5:=Nat.mod_lt _ (by omega);rw [zDt];congr 1
 ·unfold uq
  refine List.map_congr_left fun i hi=>?_
  have hi:=List.mem_range.1 hi;rw [uL _ _ _ _ _ _ _ _ h hp (by omega),uL _ _ _ _ _ _ _ _ h hp (by omega),uL _ _ _ _ _ _ _ _ h hp (by omega),if_neg (by omega),if_neg (by omega),if_neg (by omega)]
 ·rw [uL _ _ _ _ _ _ _ _ h hp (by omega),uL _ _ _ _ _ _ _ _ h hp (by omega),uL _ _ _ _ _ _ _ _ h hp (by omega)]
  simp
theorem win_full (r:List Int) (f:Nat) (x y z:Int) (h:r.length=15):uq (wrR r (((f+1) % 5+4) % 5) x y z) ((f+1) % 5) 5=(uq r f 5).tail++ [(x,y,z)]:=by
 rw [zNc r ((f+1) % 5) 4 x y z h (by omega)];congr 1
 unfold uq;rw [show List.range 5=0::(List.range 4).map (· +1) from by decide];rw [List.map_cons,List.tail_cons,List.map_map];refine List.map_congr_left fun i hi=>?_
 have hi:=List.mem_range.1 hi;have e:((f+1) % 5+i) % 5=(f+(i+1)) % 5:=by omega
 simp only [xI,Function.comp,e]
theorem zVl {r:List Int} {f:Nat} (h:ju r f) (f':Nat):ju r f':=fun i=>by
 have e:(f'+i) % 5=(f+(f'+i+4 * f)) % 5:=by omega
 have:=h (f'+i+4 * f)
 simp only [xI,←e] at this;exact this
theorem zGp {r:List Int} {f p:Nat} {x y z:Int} (h:ju r f) (hl:r.length=15) (hp:p < 5) (hx:0≤x∧x≤1073741824) (hz:0≤z∧z≤50) (f':Nat):ju (wrR r p x y z) f':=fun i=>by
 have:=zVl h f' i
 rw [uL _ _ _ _ _ _ _ _ hl hp (by omega),uL _ _ _ _ _ _ _ _ hl hp (by omega)];split
 ·exact ⟨hx,hz⟩
 ·exact this
def chkW (ep:Int) (l:List zDs) (b:Bat):Int × Bool × Int:=
 if b.epoch < ep then (0,false,8)
 else if b.epoch=ep then match findW l b with
  | some x=>(x,true,0)
  | none=>if b.seq=nextW l then (0,false,0) else (0,false,9)
 else if b.seq=0 then (0,false,0) else (0,false,9)
theorem zNd (ep:Int) (r:List Int) (f c:Nat) (b:Bat):ki ep r f c b=chkW ep (uq r f c) b:=by
 unfold ki chkW;rw [zCl,zVj];rfl
section
variable {w w':World} {hb:Nat} {ep:Int} {r:List Int} {f c:Nat}
def zTf (w:World) (hb:Nat) (ep:Int) (l:List zDs) (s:zDs) (e:Ending) (w':World):Prop:=
 e=.returned (.tuple #[])∧(∃r' f' c',xc w' hb ep r' f' c'∧ju r' f'∧uq r' f' c'=zCk l s)∧Fr (fun i=>i=hb) w w'
theorem zJc (h:xc w hb ep r f c) (hr:ju r f) (x y z:Int) (hx:0≤x∧x≤1073741824) (hz:0≤z∧z≤50):Calls Tryz.prog 138 #[.pointer (some ⟨hb,0,none⟩),.agg #[.int .i64 x,.int .i64 y,.int .i64 z]] w (zTf w hb ep (uq r f c) (x,y,z)):=by
 have h5:=h.c5;by_cases hc:c=5
 ·subst hc
  refine (zVi h x y z).mono ?_;rintro e w' ⟨rfl,hh,hf⟩;exact ⟨rfl,⟨_,_,_,hh,zGp hr h.len (Nat.mod_lt _ (by omega)) hx hz _,by rw [win_full _ _ _ _ _ h.len]; unfold zCk; rw [zNb,if_pos rfl]⟩,hf⟩
 ·refine (zVh h (by omega) x y z).mono ?_
  rintro e w' ⟨rfl,hh,hf⟩;exact ⟨rfl,⟨_,_,_,hh,zGp hr h.len (Nat.mod_lt _ (by omega)) hx hz _,by rw [zNc _ _ _ _ _ _ h.len (by omega)]; unfold zCk; rw [zNb,if_neg hc]⟩,hf⟩
end
section
variable {w w':World} {pb mb:Nat} {S:Nat→Prop}
abbrev ur:=Int→Option (Int × List zDs)
def zVm (x:Hrd):Int × List zDs:=(x.ep,uq x.r x.f x.c)
def je (w:World) (pb:Nat) (S:Nat→Prop) (n:Nat) (F:ur):Prop:=
 ∃mb L,yl w pb mb L∧(∀x∈L,ju x.2.r x.2.f)∧(∀i,zCj pb mb L i→S i)∧(∀k,F k=(yV L k).map zVm)∧L.length≤n
theorem je.fr {n:Nat} {F:ur} {T:Nat→Prop} (h:je w pb S n F) (hf:Fr T w w') (hS:∀i,S i→¬T i):je w' pb S n F:=by
 obtain ⟨mb,L,h1,h2,h3,h4⟩:=h;exact ⟨mb,L,h1.fr hf fun i hi=>hS i (h3 i hi),h2,h3,h4⟩
theorem je.old {n:Nat} {F:ur} (h:je w pb S n F) (hf:Fr (fun _=>False) w w'):je w' pb S n F:=h.fr hf fun _ _ h=>h
theorem je.new (h:yl w pb mb []):je w pb (fun i=>i=pb∨i=mb) 0 (fun _=>none):=by
 refine ⟨mb,[],h,?_,?_,fun k=>rfl,Nat.le_refl _⟩
 ·intro x hx; cases hx
 ·rintro i (h | h | ⟨x,hx,-⟩)
  ·exact .inl h
  ·exact .inr h
  ·cases hx
open Classical in
noncomputable def zLc (F:ur) (b:Bat):Int × Bool × Int:=
 if b.prod= -1 then (0,false,0) else if zQe { b with base:=0 } then (match F b.prod with | some p=>chkW p.1 p.2 b | none=>chkW (-1) [] b) else (0,false,1)
theorem zNe {n:Nat} {F:ur} (h:je w pb S n F) (b:Bat) (oa:Option Addr) (m cap:Nat):Calls Tryz.prog 76 #[.pointer (some ⟨pb,0,none⟩),yP b (.slice oa m cap)] w fun e w'=>e=.returned (chkV (zLc F b))∧Fr (fun _=>False) w w':=by
 obtain ⟨mb,L,h1,h2,h3,h4,h5⟩:=h;refine (zNa h1 h2 b oa m cap).mono ?_;rintro e w' ⟨rfl,hf⟩;refine ⟨?_,hf⟩;congr 2
 unfold zQg zLc chkL;rw [h4];split
 ·rfl
 ·split
  ·cases yV L b.prod with
   | none=>exact zNd _ _ _ _ _
   | some x=>exact zNd _ _ _ _ _
  ·rfl
def zDu (F:ur) (k:Int) (x:Int × List zDs):ur:=fun i=>if i=k then some x else F i
open Classical in
noncomputable def vh (F:ur) (b:Bat):ur:=
 if zQe b then
  match F b.prod with
  | some p=>if b.epoch < p.1 then F else if b.epoch=p.1 then zDu F b.prod (p.1,zCk p.2 (b.seq,b.base,b.span)) else zDu F b.prod (b.epoch,[(b.seq,b.base,b.span)])
  | none=>zDu F b.prod (b.epoch,[(b.seq,b.base,b.span)])
 else F
def NotePost (w:World) (pb:Nat) (S:Nat→Prop) (n:Nat) (F:ur) (e:Ending) (w':World):Prop:=
 e=.returned (.tuple #[])∧je w' pb (fun i=>S i∨w.heap.size≤i) (n+1) F∧Fr S w w'
theorem zQh {n m:Nat} {F:ur} {T:Nat→Prop} (h:je w pb S n F) (hT:∀i,S i→T i) (hn:n≤m):je w pb T m F:=by
 obtain ⟨mb,L,h1,h2,h3,h4,h5⟩:=h;exact ⟨mb,L,h1,h2,fun i hi=>hT i (h3 i hi),h4,by omega⟩
end
section
variable {w w':World} {pb mb:Nat} {S:Nat→Prop}
theorem zGq (k:Int) (x:Hrd) (L:List (Int × Hrd)) (i:Int):yV ((k,x)::L.filter fun r=>r.1≠k) i=if i=k then some x else yV L i:=by
 unfold yV;by_cases e:i=k
 ·subst e; simp
 ·rw [List.find?_cons_of_neg (by simp; exact fun h=>e h.symm),if_neg e]
  congr 1
  induction L with
  | nil=>rfl
  | cons y r ih=>
   by_cases h1:y.1=k
   ·rw [List.filter_cons_of_neg (by simpa using h1),ih,List.find?_cons_of_neg (by simp [h1]; exact fun h=>e h.symm)]
   ·rw [List.filter_cons_of_pos (by simpa using h1)]
    by_cases h2:y.1=i
    ·simp [h2]
    ·rw [List.find?_cons_of_neg (by simpa using h2),List.find?_cons_of_neg (by simpa using h2),ih]
def zFl (L:List (Int × Hrd)) (k:Int) (x:Hrd):List (Int × Hrd):=L.map fun r=>if r.1=k then (k,x) else r
theorem zVn {k:Int} {x y:Hrd} {L:List (Int × Hrd)} (h:yV L k=some y) (i:Int):yV (zFl L k x) i=if i=k then some x else yV L i:=by
 unfold yV zFl at *;induction L with
 | nil=>simp at h
 | cons z r ih=>
  by_cases h1:z.1=k
  ·by_cases e:i=k
   ·subst e; simp [h1]
   ·rw [List.map_cons,if_pos h1,if_neg e,List.find?_cons_of_neg (by simp; exact fun h=>e h.symm),List.find?_cons_of_neg (by simp [h1]; exact fun h=>e h.symm)]
    clear ih h;congr 1
    induction r with
    | nil=>rfl
    | cons u r ih=>
     by_cases h2:u.1=k
     ·rw [List.map_cons,if_pos h2,List.find?_cons_of_neg (by simp; exact fun h=>e h.symm),List.find?_cons_of_neg (by simp [h2]; exact fun h=>e h.symm),ih]
     ·rw [List.map_cons,if_neg h2]
      by_cases h3:u.1=i
      ·simp [h3]
      ·rw [List.find?_cons_of_neg (by simpa using h3),List.find?_cons_of_neg (by simpa using h3),ih]
  ·rw [List.find?_cons_of_neg (by simpa using h1)] at h
   rw [List.map_cons,if_neg h1];by_cases h2:z.1=i
   ·rw [if_neg (by rw [←h2]; exact h1)]; simp [h2]
   ·rw [List.find?_cons_of_neg (by simpa using h2),List.find?_cons_of_neg (by simpa using h2),ih h]
theorem zVo {k:Int} {x y:Hrd} {L:List (Int × Hrd)} (hn:(L.map (·.1)).Nodup) (h:yV L k=some y) (hb:x.hb=y.hb):vg (zFl L k x)=vg L:=by
 unfold vg zFl;rw [List.map_map];refine List.map_congr_left fun r hr=>?_
 simp only [Function.comp];split
 ·rename_i e
  have hm:=ui h
  have:r=(k,y):=by
   have h1:=List.nodup_iff_pairwise_ne.1 hn;obtain ⟨i,hi⟩:=List.mem_iff_getElem?.1 hr;obtain ⟨j,hj⟩:=List.mem_iff_getElem?.1 hm;by_cases hij:i=j
   ·subst hij; rw [hi] at hj; exact Option.some.inj hj
   ·exfalso
    have a1:(L.map (·.1))[i]?=some k:=by rw [List.getElem?_map,hi]; simp [e]
    have a2:(L.map (·.1))[j]?=some k:=by rw [List.getElem?_map,hj]; rfl
    obtain ⟨l1,e1⟩:=List.getElem?_eq_some_iff.1 a1;obtain ⟨l2,e2⟩:=List.getElem?_eq_some_iff.1 a2;exact hij ((List.getElem_inj hn).1 (e1.trans e2.symm))
  subst this;simp [zIn,hb]
 ·rfl
theorem hb_ne {L:List (Int × Hrd)} (hn:(L.map (·.2.hb)).Nodup) {x y:Int × Hrd} (hx:x∈L) (hy:y∈L) (h:x.1≠y.1):x.2.hb≠y.2.hb:=by
 intro e;obtain ⟨i,hi⟩:=List.mem_iff_getElem?.1 hx;obtain ⟨j,hj⟩:=List.mem_iff_getElem?.1 hy;by_cases hij:i=j
 ·subst hij; rw [hi] at hj; exact h (by rw [Option.some.inj hj])
 ·have a1:(L.map (·.2.hb))[i]?=some x.2.hb:=by rw [List.getElem?_map,hi]; rfl
  have a2:(L.map (·.2.hb))[j]?=some x.2.hb:=by rw [List.getElem?_map,hj,e]; rfl
  obtain ⟨l1,e1⟩:=List.getElem?_eq_some_iff.1 a1;obtain ⟨l2,e2⟩:=List.getElem?_eq_some_iff.1 a2;exact hij ((List.getElem_inj hn).1 (e1.trans e2.symm))
theorem yl.keys {L:List (Int × Hrd)} (h:yl w pb mb L):(L.map (·.1)).Nodup:=by
 have:=h.m.1.nodup
 unfold vg at this;rw [List.map_map] at this;exact this
theorem yl.turn {L:List (Int × Hrd)} (h:yl w pb mb L) {k:Int} {x:Hrd} (hk:yV L k=some x) (hf:Fr (fun i=>i=x.hb) w w') {ep:Int} {r:List Int} {f c:Nat} (hh:xc w' x.hb ep r f c):
  yl w' pb mb (zFl L k ⟨x.hb,ep,r,f,c⟩):=by
 have hm:=ui hk;obtain ⟨-,n1,n2⟩:=h.el _ hm;refine ⟨(hf.block pb (zA h.b) (fun e=>n1 e.symm)).trans h.b,?_,h.ne,?_,?_⟩
 ·rw [zVo h.keys hk (show (⟨x.hb,ep,r,f,c⟩:Hrd).hb=x.hb from rfl)]
  exact h.m.fr hf fun e=>n2 e.symm
 ·intro y hy
  unfold zFl at hy;obtain ⟨z,hz,rfl⟩:=List.mem_map.1 hy;by_cases e:z.1=k
  ·rw [if_pos e]; exact ⟨hh,n1,n2⟩
  ·rw [if_neg e]
   exact ⟨(h.el z hz).1.fr hf (hb_ne h.ap hz hm e),(h.el z hz).2⟩
 ·have:(zFl L k ⟨x.hb,ep,r,f,c⟩).map (·.2.hb)=L.map (·.2.hb):=by
   unfold zFl;rw [List.map_map];refine List.map_congr_left fun y hy=>?_
   simp only [Function.comp];split
   ·rename_i e
    by_cases e2:y.2.hb=x.hb
    ·exact e2.symm
    ·have h1:=List.nodup_iff_pairwise_ne.1 h.keys
     obtain ⟨i,hi⟩:=List.mem_iff_getElem?.1 hy;obtain ⟨j,hj⟩:=List.mem_iff_getElem?.1 hm;by_cases hij:i=j
     ·subst hij; rw [hi] at hj; rw [Option.some.inj hj]
     ·exfalso
      have a1:(L.map (·.1))[i]?=some k:=by rw [List.getElem?_map,hi]; simp [e]
      have a2:(L.map (·.1))[j]?=some k:=by rw [List.getElem?_map,hj]; rfl
      obtain ⟨l1,e1⟩:=List.getElem?_eq_some_iff.1 a1;obtain ⟨l2,e2⟩:=List.getElem?_eq_some_iff.1 a2;exact hij ((List.getElem_inj h.keys).1 (e1.trans e2.symm))
   ·rfl
  rw [this]; exact h.ap
theorem zVp (L:List (Int × Hrd)) (k:Int) (x:Hrd):vg ((k,x)::L.filter fun r=>r.1≠k)=jb (vg L) k (zIn x):=by
 unfold vg jb;rw [List.map_cons,List.filter_map];rfl
theorem yl.anew {L:List (Int × Hrd)} (h:yl w pb mb L) {k:Int} {x:Hrd} (hm:xT zUs w' mb (jb (vg L) k (zIn x))) (hf:Fr (fun i=>i=mb) w w') (hh:xc w' x.hb x.ep x.r x.f x.c)
  (h1:x.hb≠pb) (h2:x.hb≠mb) (h3:∀y∈L,y.2.hb≠x.hb):yl w' pb mb ((k,x)::L.filter fun r=>r.1≠k):=by
 refine ⟨(hf.block pb (zA h.b) h.ne).trans h.b,by rw [zVp]; exact hm,h.ne,?_,?_⟩
 ·intro y hy
  rcases List.mem_cons.1 hy with rfl | hy
  ·exact ⟨hh,h1,h2⟩
  ·have hy:=(List.mem_filter.1 hy).1
   exact ⟨(h.el y hy).1.fr hf (h.el y hy).2.2,(h.el y hy).2⟩
 ·rw [List.map_cons,List.nodup_cons]
  refine ⟨fun hm=>?_,h.ap.sublist (List.filter_sublist.map _)⟩;obtain ⟨y,hy,e⟩:=List.mem_map.1 hm;exact h3 y (List.mem_filter.1 hy).1 e
end
end Go.Proofs.YtfdhofabgdkkkaaGreatDoor
