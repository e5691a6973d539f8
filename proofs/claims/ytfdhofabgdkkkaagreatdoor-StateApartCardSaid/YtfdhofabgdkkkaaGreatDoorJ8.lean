/- A part of the proof that what the machine is told keeps its bounds. -/
import Derived.Test.YtfdhofabgdkkkaaGreatDoorJ7
set_option maxHeartbeats 128000000
set_option maxRecDepth 100000
namespace Go.Proofs.YtfdhofabgdkkkaaGreatDoor
open Lib renaming hid→zz
open Go.RowKit Go.Fm Go.BigFrame Go.Shelf
set_option linter.unusedVariables false
set_option linter.unusedSimpArgs false
def zBb (w:World) (b:Nat) (T:ByteArray):Prop:=Lib.IsBuilder 358 5 b b (Lib.strCells T) w
theorem zFk (a b:ByteArray):Lib.strCells (a++b)=Lib.strCells a++Lib.strCells b:=by
 unfold Lib.strCells;rw [ByteArray.data_append,Array.toList_append,List.map_append]
theorem zBb.lt {w:World} {b:Nat} {T:ByteArray} (h:zBb w b T):b < w.heap.size:=by
 rcases h with h | h <;> exact h.lt
theorem zIz {w w':World} {b:Nat} {p:Value} {bs:List Value} (h:Lib.BuilderAt 358 5 b b p bs w) (hf:Fr (fun _=>False) w w'):Lib.BuilderAt 358 5 b b p bs w':=by
 obtain ⟨h1,v,h2,h3,h4⟩:=h;exact ⟨h1,v,(hf.block b (zA h2) fun h=>h).trans h2,zl h3 fun k hk=>hf.block k (zK h3 hk).2 fun h=>h,h4⟩
theorem zBb.old {w w':World} {b:Nat} {T:ByteArray} (h:zBb w b T) (hf:Fr (fun _=>False) w w'):zBb w' b T:=by
 rcases h with h | h
 ·exact .inl (zIz h hf)
 ·exact .inr (zIz h hf)
theorem zBb.made (w:World):zBb (w.alloc (.cells #[.pointer none,.slice none 0 0] 358)) w.heap.size ByteArray.empty:=
 .inl ⟨Nat.le_refl _,_,zC w _,World.ownsRow_nil _ _ _ _,by simp [Value.ownBlock]⟩
theorem zw (b:Nat) (T s:ByteArray) (w:World) (h:zBb w b T) (hl:T.size+s.size≤1000000000):
  Calls Tryz.prog 245 #[.pointer (some ⟨b,0,none⟩),.string s] w fun e w'=>e=.returned (.tuple #[.int .i64 s.size,.nilIface])∧zBb w' b (T++s)∧Below b w w'∧zIm b w w':=
 (zQc b b _ s w h (by rw [Lib.strCells_length]; omega) (Nat.le_of_lt h.lt)).mono fun e w' ⟨h1,h2,h3⟩=>⟨h1,.inr (by rw [zFk]; exact h2),h3⟩
theorem kB (b:Nat) (T:ByteArray) (w:World) (h:zBb w b T):Calls Tryz.prog 246 #[.pointer (some ⟨b,0,none⟩)] w fun e w'=>e=.returned (.string T)∧Below b w w':=by
 have:=Tryz.Builder_String_any b b T.data.toList w h (Nat.le_of_lt h.lt)
 have e:(⟨T.data.toList.toArray⟩:ByteArray)=T:=by cases T; simp
 rw [e] at this;exact this
def xX (r:Rec):Int:=(if r.bare then 1 else 0)+(if r.gone then 2 else 0)
def jP (r:Rec):ByteArray:=zM r.at'++zM r.tm++zM (xX r)++zI r.key++zI r.val++zM r.hs.length
def xR (r:Rec):Nat→ByteArray
 | 0=>jP r
 | k+1=>match r.hs[k]? with
  | some h=>xR r k++zI h.key++zI h.val
  | none=>xR r k
def vd (r:Rec):ByteArray:=xR r r.hs.length
theorem um {r:Rec} (h:jp r):∀k,k≤r.hs.length→(xR r k).size≤3000+2100 * k
 | 0,_=>by
  have wa:(Lit.int .i64 r.at').wf=true:=by have:=h.at0; have:=h.at1; simp [Lit.wf,IntKind.min,IntKind.max,IntKind.signed,IntKind.bits]; omega
  have wt:(Lit.int .i64 r.tm).wf=true:=by have:=h.tm0; have:=h.tm1; simp [Lit.wf,IntKind.min,IntKind.max,IntKind.signed,IntKind.bits]; omega
  have wf:(Lit.int .i64 (xX r)).wf=true:=by unfold xX; cases r.bare <;> cases r.gone <;> decide
  have hk:=h.key;have hv:=h.val;have hl:=h.hs;have sa:=zb wa;have st:=zb wt;have sf:=zb wf;have sl:=zb (vT (show r.hs.length≤1000000000 by omega));have sk:=zp (show r.key.size≤1000000000 by omega);have sv:=zp (show r.val.size≤1000000000 by omega)
  show (jP r).size≤_
  unfold jP;rw [ByteArray.size_append,ByteArray.size_append,ByteArray.size_append,ByteArray.size_append,ByteArray.size_append];omega
 | k+1,hk=>by
  obtain ⟨x,hx⟩:=zH (show k < r.hs.length by omega);have ih:=um h k (by omega);obtain ⟨h1,h2,h3⟩:=h.hdrs x (List.mem_of_getElem? hx);have sk:=zp (show x.key.size≤1000000000 by omega);have sv:=zp (show x.val.size≤1000000000 by omega);simp only [xR,hx];rw [ByteArray.size_append,ByteArray.size_append];omega
theorem zVa {r:Rec} (h:jp r):(vd r).size≤24000:=by
 have:=um h r.hs.length (Nat.le_refl _)
 have:=h.hs
 unfold vd;omega
theorem kC (w:World) (a b:ByteArray) (h:a.size+b.size≤1000000000):(binOp .add 9 (.string a) (.string b)).run Tryz.prog w=.ok (.string (a++b)) w:=by
 simp [binOp,run_string_add_sum w a b (by omega)]
theorem zDq (K:Nat→Prop) (r:Rec) (hv:Value) (w:World) (h:xi K w hv r.hs) (hr:jp r):Calls Tryz.prog 93 #[xy r hv] w fun e w'=>e=.returned (.int .i64 0)∧Fr (fun _=>False) w w':=
 (zEo K r hv w h).mono fun e w' ⟨c,h1,h2,h3⟩=>by
  rcases h2 with ⟨rfl,-⟩ | ⟨-,h2⟩
  ·exact ⟨h1,h3⟩
  ·exact absurd hr h2
theorem zVb (K:Nat→Prop) (r:Rec) (hv:Value) (w:World) (h:xi K w hv r.hs) (hr:¬jp r):Calls Tryz.prog 93 #[xy r hv] w fun e w'=>e=.returned (.int .i64 1)∧Fr (fun _=>False) w w':=
 (zEo K r hv w h).mono fun e w' ⟨c,h1,h2,h3⟩=>by
  rcases h2 with ⟨-,h2⟩ | ⟨rfl,-⟩
  ·exact absurd h2 hr
  ·exact ⟨h1,h3⟩
theorem zMv (K:Nat→Prop) (r:Rec) (hv:Value) (w:World) (h:xi K w hv r.hs) (hr:jp r):
  Calls Tryz.prog 198 #[xy r hv] w fun e w'=>e=.returned (.tuple #[.string (vd r),.int .i64 0])∧Fr (fun _=>False) w w':=by
 have hck:=zDq K r hv (w.alloc (js r hv)) (h.old ((Fr.same w).alloc _)) hr;obtain ⟨oa,cap,rfl,h⟩:=h;have H:=zz h;have hobj:=zC w (js r (.slice oa r.hs.length cap));have hfa:=(Fr.same w).alloc (js r (.slice oa r.hs.length cap));have hsz:r.hs.length≤10:=hr.hs;have hk:=hr.key;have hvl:=hr.val;have wa:(Lit.int .i64 r.at').wf=true:=by have:=hr.at0; have:=hr.at1; simp [Lit.wf,IntKind.min,IntKind.max,IntKind.signed,IntKind.bits]; omega
 have wt:(Lit.int .i64 r.tm).wf=true:=by have:=hr.tm0; have:=hr.tm1; simp [Lit.wf,IntKind.min,IntKind.max,IntKind.signed,IntKind.bits]; omega
 have wf:(Lit.int .i64 (xX r)).wf=true:=by unfold xX; cases r.bare <;> cases r.gone <;> decide
 have wl:=vT (show r.hs.length≤1000000000 by omega);have sa:=zb wa;have st:=zb wt;have sf:=zb wf;have sl:=zb wl;have sk:=zp (show r.key.size≤1000000000 by omega);have sv:=zp (show r.val.size≤1000000000 by omega);have WA:=zz wa;have WT:=zz wt;have WF:=zz wf;have WL:=zz wl;have HCK:=zz hck;have HROK:=zz hr;have OB:=zz hobj;have FA:=zz hfa;have hsh:(r.bare=false∧r.gone=false∧xX r=0)∨(r.bare=true∧r.gone=false∧xX r=1)∨(r.bare=false∧r.gone=true∧xX r=2):=by
  unfold xX;have hb:=hr.both;cases h1:r.bare <;> cases h2:r.gone
  ·exact .inl ⟨rfl,rfl,rfl⟩
  ·exact .inr (.inr ⟨rfl,rfl,rfl⟩)
  ·exact .inr (.inl ⟨rfl,rfl,rfl⟩)
  ·exact (hb ⟨h1,h2⟩).elim
 have o1:bits .or .i64 0 1=1:=by kernel_rfl
 have o2:bits .or .i64 0 2=2:=by kernel_rfl
 clear h hck hr wa wt wf wl hobj hfa;obtain ⟨R,hR⟩:∃R,Hid (R=r):=⟨_,zz rfl⟩;have hEnc:Hid (vd r=vd R):=zz (by rw [hR.out]);have hEn:Hid (jP R=zM r.at'++zM r.tm++zM (xX r)++zI r.key++zI r.val++zM r.hs.length∧R.hs=r.hs):=zz (by rw [hR.out]; exact ⟨rfl,rfl⟩);rw [hEnc.out];have hRO:Hid (jp R):=zz (by rw [hR.out]; exact HROK.out);clear hEnc HROK hR;generalize hfl:xX r=fl at *;obtain ⟨rat,rtm,rbare,rkey,rgone,rval,rhs⟩:=r;unfold xy at *;dsimp only at *;clear hfl;rcases hsh with ⟨rfl,rfl,rfl⟩ | ⟨rfl,rfl,rfl⟩ | ⟨rfl,rfl,rfl⟩
 ·go_enter Tryz.func198,Tryz.ntmps198
  go_wp2_with fail
  refine HCK.out.mono ?_;rintro e w2 ⟨rfl,hf2⟩;have hb2:=(hf2.block _ (zA OB.out) fun h=>h).trans OB.out;have F2:=zz (FA.out.tr hf2);have OB2:=zz hb2;have d2:=(zB hb2 2).trans rfl;have d4:=(zB hb2 4).trans rfl;have fb:=(Fr.same w2).alloc (.cells #[.pointer none,.slice none 0 0] 358);have c0:=fb.cel ((zB hb2 0).trans rfl);have c1:=fb.cel ((zB hb2 1).trans rfl);simp [js] at d2 d4 c0 c1;clear hf2 hb2;have hwb:w.heap.size≤w2.heap.size:=F2.out.size;have hwl:w.heap.size < w2.heap.size:=zA OB2.out;have BB0:=zz ((zBb.made w2).old ((Fr.same _).alloc (.cells #[.int .i64 rat,.int .i64 rtm,.int .i64 0] 3)));have AR0:Hid (((w2.alloc (.cells #[.pointer none,.slice none 0 0] 358)).alloc (.cells #[.int .i64 rat,.int .i64 rtm,.int .i64 0] 3)).heap[w2.heap.size+1]?=some (.cells #[.int .i64 rat,.int .i64 rtm,.int .i64 0] 3 (0,0))):=
   zz (by have:=zC (w2.alloc (.cells #[.pointer none,.slice none 0 0] 358)) (.cells #[.int .i64 rat,.int .i64 rtm,.int .i64 0] 3); simpa using this)
  have hff:=(Fr.alloc fb (.cells #[.int .i64 rat,.int .i64 rtm,.int .i64 0] 3));have FF0:=zz (F2.out.tr hff);have OR0:=zz ((hff.block _ (zA OB2.out) fun h=>h).trans OB2.out);clear hff;go_wp2_with fail
  clear c0 c1 d2 d4 fb;generalize (w2.alloc (.cells #[.pointer none,.slice none 0 0] 358)).alloc (.cells #[.int .i64 rat,.int .i64 rtm,.int .i64 0] 3)=W3 at *;generalize w2.heap.size=b at *;refine wp_loop_rounds 4 ?_;rw [rounds_succ];have n0:=(zB AR0.out 0).trans rfl;simp at n0;go_wp2_with fail
  refine (xF _ _ WA.out).mono ?_;rintro e wp0 ⟨rfl,hfp⟩;have FP0:=zz (FF0.out.tr hfp);have BP0:=zz (BB0.out.old hfp);have AP0:=zz ((hfp.block _ (zA AR0.out) fun h=>h).trans AR0.out);have OP0:=zz ((hfp.block _ (zA OR0.out) fun h=>h).trans OR0.out);clear hfp n0;go_wp2_with fail
  refine (zw b _ _ _ BP0.out (by simp only [ByteArray.size_append,ByteArray.size_empty]; omega)).mono ?_;rintro e ww0 ⟨rfl,hbw,hbl,hkp⟩;have FF1:=zz (xZ FP0.out hbl hwb);have BB1:=zz hbw;have AR1:=zz (hkp _ _ _ _ (by omega) (by decide) AP0.out);have OR1:=zz (hkp _ _ _ _ (by omega) (by decide) OP0.out);clear hbw hbl hkp FP0 BP0 AP0 OP0 FF0 BB0 AR0 OR0;go_wp2_with fail
  rw [rounds_succ];have n1:=(zB AR1.out 1).trans rfl;simp at n1;go_wp2_with fail
  refine (xF _ _ WT.out).mono ?_;rintro e wp1 ⟨rfl,hfp⟩;have FP1:=zz (FF1.out.tr hfp);have BP1:=zz (BB1.out.old hfp);have AP1:=zz ((hfp.block _ (zA AR1.out) fun h=>h).trans AR1.out);have OP1:=zz ((hfp.block _ (zA OR1.out) fun h=>h).trans OR1.out);clear hfp n1;go_wp2_with fail
  refine (zw b _ _ _ BP1.out (by simp only [ByteArray.size_append,ByteArray.size_empty]; omega)).mono ?_;rintro e ww1 ⟨rfl,hbw,hbl,hkp⟩;have FF2:=zz (xZ FP1.out hbl hwb);have BB2:=zz hbw;have AR2:=zz (hkp _ _ _ _ (by omega) (by decide) AP1.out);have OR2:=zz (hkp _ _ _ _ (by omega) (by decide) OP1.out);clear hbw hbl hkp FP1 BP1 AP1 OP1 FF1 BB1 AR1 OR1;go_wp2_with fail
  rw [rounds_succ];have n2:=(zB AR2.out 2).trans rfl;simp at n2;go_wp2_with fail
  refine (xF _ _ WF.out).mono ?_;rintro e wp2 ⟨rfl,hfp⟩;have FP2:=zz (FF2.out.tr hfp);have BP2:=zz (BB2.out.old hfp);have AP2:=zz ((hfp.block _ (zA AR2.out) fun h=>h).trans AR2.out);have OP2:=zz ((hfp.block _ (zA OR2.out) fun h=>h).trans OR2.out);clear hfp n2;go_wp2_with fail
  refine (zw b _ _ _ BP2.out (by simp only [ByteArray.size_append,ByteArray.size_empty]; omega)).mono ?_;rintro e ww2 ⟨rfl,hbw,hbl,hkp⟩;have FF3:=zz (xZ FP2.out hbl hwb);have BB3:=zz hbw;have AR3:=zz (hkp _ _ _ _ (by omega) (by decide) AP2.out);have OR3:=zz (hkp _ _ _ _ (by omega) (by decide) OP2.out);clear hbw hbl hkp FP2 BP2 AP2 OP2 FF2 BB2 AR2 OR2;go_wp2_with fail
  rw [rounds_succ];go_wp2_with fail
  have fput:∀w1 (n:Int),(Lit.int .i64 n).wf=true→∀y:Lcl.InS (fun w'=>Fr (fun _=>False) w1 w'),Calls Tryz.prog 185 #[.int .i64 n] y.w fun e w'=>e=.returned (.string (zM n))∧∃y:Lcl.InS (fun w'=>Fr (fun _=>False) w1 w'),w'=y.w:=fun w1 n hn y=>uB y (xF n _ hn)
  have ftext:∀w1 (t:ByteArray),t.size≤1000000000→∀y:Lcl.InS (fun w'=>Fr (fun _=>False) w1 w'),Calls Tryz.prog 186 #[.string t] y.w fun e w'=>e=.returned (.string (zI t))∧∃y:Lcl.InS (fun w'=>Fr (fun _=>False) w1 w'),w'=y.w:=fun w1 t ht y=>uB y (yR t _ ht)
  have x3:∀y:Lcl.InS (fun w'=>Fr (fun _=>False) ww2 w'),y.w.cell? ⟨w.heap.size,3,none⟩=some (.string rkey):=fun y=>y.h.cel ((zB OR3.out 3).trans rfl)
  have x5:∀y:Lcl.InS (fun w'=>Fr (fun _=>False) ww2 w'),y.w.cell? ⟨w.heap.size,5,none⟩=some (.string rval):=fun y=>y.h.cel ((zB OR3.out 5).trans rfl)
  have x6:∀y:Lcl.InS (fun w'=>Fr (fun _=>False) ww2 w'),y.w.cell? ⟨w.heap.size,6,none⟩=some (.slice oa rhs.length cap):=fun y=>y.h.cel ((zB OR3.out 6).trans rfl)
  have a1:=fun w=>kC w (zI rkey) (zI rval) (by omega)
  have a2:=fun w=>kC w (zI rkey++zI rval) (zM rhs.length) (by rw [ByteArray.size_append]; omega)
  refine Lcl.wp_region_part (C:=fun w'=>∃y:Lcl.InS (fun w'=>Fr (fun _=>False) ww2 w'),w'=y.w) (by kernel_rfl) [(false,[0,1,2,3,4,5,6,7,8,9,10,11])] #[0,1,3,0,8,31,63,0,128,384,959,2047,4095] 1 #[true,true,true,true,true,true,true,true,true,true,true,true,false] (by kernel_rfl) (by kernel_rfl) (by kernel_rfl) ⟨⟨ww2.drew,(Fr.same ww2).drew⟩,rfl⟩ (fun d c a v w h=>by cases d <;> exact h) ?_;simp only [Lcl.opsOf,List.map_cons,List.map_nil,List.getElem?_toArray,List.getElem?_cons_succ,List.getElem?_cons_zero,Option.getD_some];refine Lcl.wpSegs_f ?_;repeat (go_big_quiet_step (first | with_reducible rfl | exact ftext _ _ (by omega) _ | exact fput _ _ WL.out _))
  refine wpQuiet_nil ?_;refine Lcl.wpSegs_nil ?_;rintro _ ⟨y,rfl⟩;clear fput ftext x3 x5 x6 a1 a2;refine Lcl.wpAny_of_G (S:=fun _=>True) (need:=fun j=>([]:List Nat).contains j) _ _ _ _ ?_;refine Lcl.wpG_run (needs:=[]) [12] _ _ _ (by kernel_rfl) ?_;simp only [List.map_cons,List.map_nil,List.getElem?_toArray,List.getElem?_cons_succ,List.getElem?_cons_zero,Option.getD_some];have BP3:=zz (BB3.out.old y.h);have FP3:=zz (FF3.out.tr y.h);have OP3:=zz ((y.h.block _ (zA OR3.out) fun h=>h).trans OR3.out);generalize y.w=wy at *;clear y;go_wp2_with fail
  refine (zw b _ _ _ BP3.out (by simp only [ByteArray.size_append,ByteArray.size_empty]; omega)).mono ?_;rintro e w4 ⟨rfl,hbw,hbl,hkp⟩;have FF4:=zz (xZ FP3.out hbl hwb);have BB4:=zz hbw;have OR4:=zz (hkp _ _ _ _ (by omega) (by decide) OP3.out);clear hbw hbl hkp FP3 BP3 OP3 FF3 BB3 AR3 OR3;have hT:ByteArray.empty++zM rat++zM rtm++zM 0++(zI rkey++zI rval++zM rhs.length)=xR R 0:=by
   show _=jP R
   rw [hEn.out.1];simp only [ByteArray.append_assoc,ByteArray.empty_append]
  rw [hT] at BB4;clear hT;have e6:=(zB OR4.out 6).trans rfl;simp at e6;go_wp2_with fail
  clear e6 HCK OB FA OB2 F2 OR4;have hRh:=hEn.out.2;have HRH:=zz hRh;clear hRh hEn;go_loopw [55] (fun i wr=>∃k:Nat,i=.int .i64 k∧k≤rhs.length∧Fr (fun _=>False) w wr∧zBb wr b (xR R k)) (fun i _=>rhs.length - (intOf i).toNat)
  case atStart=>exact ⟨0,rfl,Nat.zero_le _,FF4.out,BB4.out⟩
  case round=>
   clear FF4 BB4;obtain ⟨k,rfl,hk',hf,hbb⟩:=hrel;have F:=zz hf;have BB:=zz hbb;clear hf hbb;have esz:=um hRO.out k (by rw [HRH.out]; exact hk');rcases Nat.lt_or_ge k rhs.length with hlt | hge
   ·obtain ⟨x,hx⟩:=zH hlt
    obtain ⟨a,rfl,-,c0,c1⟩:=H.out k x hx;have c0:=F.out.cel c0;have c1:=F.out.cel c1;obtain ⟨g1,g2,g3⟩:=hRO.out.hdrs x (List.mem_of_getElem? (by rw [HRH.out]; exact hx));have hTo:Hid (xR R (k+1)=xR R k++(zI x.key++zI x.val)):=zz (by simp only [xR,HRH.out,hx,ByteArray.append_assoc]);have HX:=zz hx;have xk:=zp (show x.key.size≤1000000000 by omega);have xv:=zp (show x.val.size≤1000000000 by omega);have hf2:=(Fr.same wr).alloc (.cells #[.string x.key,.string x.val] 97);have F2:=zz (F.out.tr hf2);have OH:=zz (zC wr (.cells #[.string x.key,.string x.val] 97));have BB2:=zz (BB.out.old hf2);clear hx hf2;go_wp2_with fail
    clear c0 c1;generalize hwh:wr.alloc (.cells #[.string x.key,.string x.val] 97)=wh at *;clear hwh;have ftext:∀w1 (t:ByteArray),t.size≤1000000000→∀y:Lcl.InS (fun w'=>Fr (fun _=>False) w1 w'),Calls Tryz.prog 186 #[.string t] y.w fun e w'=>e=.returned (.string (zI t))∧∃y:Lcl.InS (fun w'=>Fr (fun _=>False) w1 w'),w'=y.w:=fun w1 t ht y=>uB y (yR t _ ht)
    have x0:∀y:Lcl.InS (fun w'=>Fr (fun _=>False) wh w'),y.w.cell? ⟨wr.heap.size,0,none⟩=some (.string x.key):=fun y=>y.h.cel ((zB OH.out 0).trans rfl)
    have x1:∀y:Lcl.InS (fun w'=>Fr (fun _=>False) wh w'),y.w.cell? ⟨wr.heap.size,1,none⟩=some (.string x.val):=fun y=>y.h.cel ((zB OH.out 1).trans rfl)
    have a1:=fun w=>kC w (zI x.key) (zI x.val) (by omega)
    refine Lcl.wp_region_part (C:=fun w'=>∃y:Lcl.InS (fun w'=>Fr (fun _=>False) wh w'),w'=y.w) (by kernel_rfl) [(false,[0,1,2,3,4,5,6])] #[0,1,3,0,8,31,63,127] 1 #[true,true,true,true,true,true,true,false] (by kernel_rfl) (by kernel_rfl) (by kernel_rfl) ⟨⟨wh.drew,(Fr.same wh).drew⟩,rfl⟩ (fun d c a v w h=>by cases d <;> exact h) ?_;simp only [Lcl.opsOf,List.map_cons,List.map_nil,List.getElem?_toArray,List.getElem?_cons_succ,List.getElem?_cons_zero,Option.getD_some];refine Lcl.wpSegs_f ?_;repeat (go_big_quiet_step (first | with_reducible rfl | exact ftext _ _ (by omega) _))
    refine wpQuiet_nil ?_;refine Lcl.wpSegs_nil ?_;rintro _ ⟨y,rfl⟩;clear ftext x0 x1 a1;refine Lcl.wpAny_of_G (S:=fun _=>True) (need:=fun j=>([]:List Nat).contains j) _ _ _ _ ?_;refine Lcl.wpG_run (needs:=[]) [7] _ _ _ (by kernel_rfl) ?_;simp only [List.map_cons,List.map_nil,List.getElem?_toArray,List.getElem?_cons_succ,List.getElem?_cons_zero,Option.getD_some];have BP5:=zz (BB2.out.old y.h);have FP5:=zz (F2.out.tr y.h);generalize y.w=wy2 at *;clear y;go_wp2_with fail
    refine (zw b _ _ _ BP5.out (by simp only [ByteArray.size_append]; omega)).mono ?_;rintro e w5 ⟨rfl,hbw,hbl,hkp⟩;have FF5:=zz (xZ FP5.out hbl hwb);rw [←hTo.out] at hbw;have BB5:=zz hbw;clear hbw hbl hkp FP5 BP5;go_wp2_with fail
    go_roundw
    case rel=>exact ⟨k+1,by go_num,by omega,FF5.out,BB5.out⟩
    case measure=>simp [intOf]; omega
   ·have hkl:k=rhs.length:=by omega
    subst hkl;go_wp2_with fail
    refine (kB b _ _ BB.out).mono ?_;rintro e w5 ⟨rfl,hbl⟩;have FF5:=zz (xZ F.out hbl hwb);have hEq:vd R=xR R rhs.length:=by unfold vd; rw [HRH.out]
    have HEQ:=zz hEq;clear hbl hEq;go_wp2_with fail
    go_ret2
    exact ⟨by rw [HEQ.out]; rfl,FF5.out⟩
 ·go_enter Tryz.func198,Tryz.ntmps198
  go_wp2_with fail
  refine HCK.out.mono ?_;rintro e w2 ⟨rfl,hf2⟩;have hb2:=(hf2.block _ (zA OB.out) fun h=>h).trans OB.out;have F2:=zz (FA.out.tr hf2);have OB2:=zz hb2;have d2:=(zB hb2 2).trans rfl;have d4:=(zB hb2 4).trans rfl;have fb:=(Fr.same w2).alloc (.cells #[.pointer none,.slice none 0 0] 358);have c0:=fb.cel ((zB hb2 0).trans rfl);have c1:=fb.cel ((zB hb2 1).trans rfl);simp [js] at d2 d4 c0 c1;clear hf2 hb2;have hwb:w.heap.size≤w2.heap.size:=F2.out.size;have hwl:w.heap.size < w2.heap.size:=zA OB2.out;have BB0:=zz ((zBb.made w2).old ((Fr.same _).alloc (.cells #[.int .i64 rat,.int .i64 rtm,.int .i64 1] 3)));have AR0:Hid (((w2.alloc (.cells #[.pointer none,.slice none 0 0] 358)).alloc (.cells #[.int .i64 rat,.int .i64 rtm,.int .i64 1] 3)).heap[w2.heap.size+1]?=some (.cells #[.int .i64 rat,.int .i64 rtm,.int .i64 1] 3 (0,0))):=
   zz (by have:=zC (w2.alloc (.cells #[.pointer none,.slice none 0 0] 358)) (.cells #[.int .i64 rat,.int .i64 rtm,.int .i64 1] 3); simpa using this)
  have hff:=(Fr.alloc fb (.cells #[.int .i64 rat,.int .i64 rtm,.int .i64 1] 3));have FF0:=zz (F2.out.tr hff);have OR0:=zz ((hff.block _ (zA OB2.out) fun h=>h).trans OB2.out);clear hff;go_wp2_with fail
  clear c0 c1 d2 d4 fb;generalize (w2.alloc (.cells #[.pointer none,.slice none 0 0] 358)).alloc (.cells #[.int .i64 rat,.int .i64 rtm,.int .i64 1] 3)=W3 at *;generalize w2.heap.size=b at *;refine wp_loop_rounds 4 ?_;rw [rounds_succ];have n0:=(zB AR0.out 0).trans rfl;simp at n0;go_wp2_with fail
  refine (xF _ _ WA.out).mono ?_;rintro e wp0 ⟨rfl,hfp⟩;have FP0:=zz (FF0.out.tr hfp);have BP0:=zz (BB0.out.old hfp);have AP0:=zz ((hfp.block _ (zA AR0.out) fun h=>h).trans AR0.out);have OP0:=zz ((hfp.block _ (zA OR0.out) fun h=>h).trans OR0.out);clear hfp n0;go_wp2_with fail
  refine (zw b _ _ _ BP0.out (by simp only [ByteArray.size_append,ByteArray.size_empty]; omega)).mono ?_;rintro e ww0 ⟨rfl,hbw,hbl,hkp⟩;have FF1:=zz (xZ FP0.out hbl hwb);have BB1:=zz hbw;have AR1:=zz (hkp _ _ _ _ (by omega) (by decide) AP0.out);have OR1:=zz (hkp _ _ _ _ (by omega) (by decide) OP0.out);clear hbw hbl hkp FP0 BP0 AP0 OP0 FF0 BB0 AR0 OR0;go_wp2_with fail
  rw [rounds_succ];have n1:=(zB AR1.out 1).trans rfl;simp at n1;go_wp2_with fail
  refine (xF _ _ WT.out).mono ?_;rintro e wp1 ⟨rfl,hfp⟩;have FP1:=zz (FF1.out.tr hfp);have BP1:=zz (BB1.out.old hfp);have AP1:=zz ((hfp.block _ (zA AR1.out) fun h=>h).trans AR1.out);have OP1:=zz ((hfp.block _ (zA OR1.out) fun h=>h).trans OR1.out);clear hfp n1;go_wp2_with fail
  refine (zw b _ _ _ BP1.out (by simp only [ByteArray.size_append,ByteArray.size_empty]; omega)).mono ?_;rintro e ww1 ⟨rfl,hbw,hbl,hkp⟩;have FF2:=zz (xZ FP1.out hbl hwb);have BB2:=zz hbw;have AR2:=zz (hkp _ _ _ _ (by omega) (by decide) AP1.out);have OR2:=zz (hkp _ _ _ _ (by omega) (by decide) OP1.out);clear hbw hbl hkp FP1 BP1 AP1 OP1 FF1 BB1 AR1 OR1;go_wp2_with fail
  rw [rounds_succ];have n2:=(zB AR2.out 2).trans rfl;simp at n2;go_wp2_with fail
  refine (xF _ _ WF.out).mono ?_;rintro e wp2 ⟨rfl,hfp⟩;have FP2:=zz (FF2.out.tr hfp);have BP2:=zz (BB2.out.old hfp);have AP2:=zz ((hfp.block _ (zA AR2.out) fun h=>h).trans AR2.out);have OP2:=zz ((hfp.block _ (zA OR2.out) fun h=>h).trans OR2.out);clear hfp n2;go_wp2_with fail
  refine (zw b _ _ _ BP2.out (by simp only [ByteArray.size_append,ByteArray.size_empty]; omega)).mono ?_;rintro e ww2 ⟨rfl,hbw,hbl,hkp⟩;have FF3:=zz (xZ FP2.out hbl hwb);have BB3:=zz hbw;have AR3:=zz (hkp _ _ _ _ (by omega) (by decide) AP2.out);have OR3:=zz (hkp _ _ _ _ (by omega) (by decide) OP2.out);clear hbw hbl hkp FP2 BP2 AP2 OP2 FF2 BB2 AR2 OR2;go_wp2_with fail
  rw [rounds_succ];go_wp2_with fail
  have fput:∀w1 (n:Int),(Lit.int .i64 n).wf=true→∀y:Lcl.InS (fun w'=>Fr (fun _=>False) w1 w'),Calls Tryz.prog 185 #[.int .i64 n] y.w fun e w'=>e=.returned (.string (zM n))∧∃y:Lcl.InS (fun w'=>Fr (fun _=>False) w1 w'),w'=y.w:=fun w1 n hn y=>uB y (xF n _ hn)
  have ftext:∀w1 (t:ByteArray),t.size≤1000000000→∀y:Lcl.InS (fun w'=>Fr (fun _=>False) w1 w'),Calls Tryz.prog 186 #[.string t] y.w fun e w'=>e=.returned (.string (zI t))∧∃y:Lcl.InS (fun w'=>Fr (fun _=>False) w1 w'),w'=y.w:=fun w1 t ht y=>uB y (yR t _ ht)
  have x3:∀y:Lcl.InS (fun w'=>Fr (fun _=>False) ww2 w'),y.w.cell? ⟨w.heap.size,3,none⟩=some (.string rkey):=fun y=>y.h.cel ((zB OR3.out 3).trans rfl)
  have x5:∀y:Lcl.InS (fun w'=>Fr (fun _=>False) ww2 w'),y.w.cell? ⟨w.heap.size,5,none⟩=some (.string rval):=fun y=>y.h.cel ((zB OR3.out 5).trans rfl)
  have x6:∀y:Lcl.InS (fun w'=>Fr (fun _=>False) ww2 w'),y.w.cell? ⟨w.heap.size,6,none⟩=some (.slice oa rhs.length cap):=fun y=>y.h.cel ((zB OR3.out 6).trans rfl)
  have a1:=fun w=>kC w (zI rkey) (zI rval) (by omega)
  have a2:=fun w=>kC w (zI rkey++zI rval) (zM rhs.length) (by rw [ByteArray.size_append]; omega)
  refine Lcl.wp_region_part (C:=fun w'=>∃y:Lcl.InS (fun w'=>Fr (fun _=>False) ww2 w'),w'=y.w) (by kernel_rfl) [(false,[0,1,2,3,4,5,6,7,8,9,10,11])] #[0,1,3,0,8,31,63,0,128,384,959,2047,4095] 1 #[true,true,true,true,true,true,true,true,true,true,true,true,false] (by kernel_rfl) (by kernel_rfl) (by kernel_rfl) ⟨⟨ww2.drew,(Fr.same ww2).drew⟩,rfl⟩ (fun d c a v w h=>by cases d <;> exact h) ?_;simp only [Lcl.opsOf,List.map_cons,List.map_nil,List.getElem?_toArray,List.getElem?_cons_succ,List.getElem?_cons_zero,Option.getD_some];refine Lcl.wpSegs_f ?_;repeat (go_big_quiet_step (first | with_reducible rfl | exact ftext _ _ (by omega) _ | exact fput _ _ WL.out _))
  refine wpQuiet_nil ?_;refine Lcl.wpSegs_nil ?_;rintro _ ⟨y,rfl⟩;clear fput ftext x3 x5 x6 a1 a2;refine Lcl.wpAny_of_G (S:=fun _=>True) (need:=fun j=>([]:List Nat).contains j) _ _ _ _ ?_;refine Lcl.wpG_run (needs:=[]) [12] _ _ _ (by kernel_rfl) ?_;simp only [List.map_cons,List.map_nil,List.getElem?_toArray,List.getElem?_cons_succ,List.getElem?_cons_zero,Option.getD_some];have BP3:=zz (BB3.out.old y.h);have FP3:=zz (FF3.out.tr y.h);have OP3:=zz ((y.h.block _ (zA OR3.out) fun h=>h).trans OR3.out);generalize y.w=wy at *;clear y;go_wp2_with fail
  refine (zw b _ _ _ BP3.out (by simp only [ByteArray.size_append,ByteArray.size_empty]; omega)).mono ?_;rintro e w4 ⟨rfl,hbw,hbl,hkp⟩;have FF4:=zz (xZ FP3.out hbl hwb);have BB4:=zz hbw;have OR4:=zz (hkp _ _ _ _ (by omega) (by decide) OP3.out);clear hbw hbl hkp FP3 BP3 OP3 FF3 BB3 AR3 OR3;have hT:ByteArray.empty++zM rat++zM rtm++zM 1++(zI rkey++zI rval++zM rhs.length)=xR R 0:=by
   show _=jP R
   rw [hEn.out.1];simp only [ByteArray.append_assoc,ByteArray.empty_append]
  rw [hT] at BB4;clear hT;have e6:=(zB OR4.out 6).trans rfl;simp at e6;go_wp2_with fail
  clear e6 HCK OB FA OB2 F2 OR4;have hRh:=hEn.out.2;have HRH:=zz hRh;clear hRh hEn;go_loopw [55] (fun i wr=>∃k:Nat,i=.int .i64 k∧k≤rhs.length∧Fr (fun _=>False) w wr∧zBb wr b (xR R k)) (fun i _=>rhs.length - (intOf i).toNat)
  case atStart=>exact ⟨0,rfl,Nat.zero_le _,FF4.out,BB4.out⟩
  case round=>
   clear FF4 BB4;obtain ⟨k,rfl,hk',hf,hbb⟩:=hrel;have F:=zz hf;have BB:=zz hbb;clear hf hbb;have esz:=um hRO.out k (by rw [HRH.out]; exact hk');rcases Nat.lt_or_ge k rhs.length with hlt | hge
   ·obtain ⟨x,hx⟩:=zH hlt
    obtain ⟨a,rfl,-,c0,c1⟩:=H.out k x hx;have c0:=F.out.cel c0;have c1:=F.out.cel c1;obtain ⟨g1,g2,g3⟩:=hRO.out.hdrs x (List.mem_of_getElem? (by rw [HRH.out]; exact hx));have hTo:Hid (xR R (k+1)=xR R k++(zI x.key++zI x.val)):=zz (by simp only [xR,HRH.out,hx,ByteArray.append_assoc]);have HX:=zz hx;have xk:=zp (show x.key.size≤1000000000 by omega);have xv:=zp (show x.val.size≤1000000000 by omega);have hf2:=(Fr.same wr).alloc (.cells #[.string x.key,.string x.val] 97);have F2:=zz (F.out.tr hf2);have OH:=zz (zC wr (.cells #[.string x.key,.string x.val] 97));have BB2:=zz (BB.out.old hf2);clear hx hf2;go_wp2_with fail
    clear c0 c1;generalize hwh:wr.alloc (.cells #[.string x.key,.string x.val] 97)=wh at *;clear hwh;have ftext:∀w1 (t:ByteArray),t.size≤1000000000→∀y:Lcl.InS (fun w'=>Fr (fun _=>False) w1 w'),Calls Tryz.prog 186 #[.string t] y.w fun e w'=>e=.returned (.string (zI t))∧∃y:Lcl.InS (fun w'=>Fr (fun _=>False) w1 w'),w'=y.w:=fun w1 t ht y=>uB y (yR t _ ht)
    have x0:∀y:Lcl.InS (fun w'=>Fr (fun _=>False) wh w'),y.w.cell? ⟨wr.heap.size,0,none⟩=some (.string x.key):=fun y=>y.h.cel ((zB OH.out 0).trans rfl)
    have x1:∀y:Lcl.InS (fun w'=>Fr (fun _=>False) wh w'),y.w.cell? ⟨wr.heap.size,1,none⟩=some (.string x.val):=fun y=>y.h.cel ((zB OH.out 1).trans rfl)
    have a1:=fun w=>kC w (zI x.key) (zI x.val) (by omega)
    refine Lcl.wp_region_part (C:=fun w'=>∃y:Lcl.InS (fun w'=>Fr (fun _=>False) wh w'),w'=y.w) (by kernel_rfl) [(false,[0,1,2,3,4,5,6])] #[0,1,3,0,8,31,63,127] 1 #[true,true,true,true,true,true,true,false] (by kernel_rfl) (by kernel_rfl) (by kernel_rfl) ⟨⟨wh.drew,(Fr.same wh).drew⟩,rfl⟩ (fun d c a v w h=>by cases d <;> exact h) ?_;simp only [Lcl.opsOf,List.map_cons,List.map_nil,List.getElem?_toArray,List.getElem?_cons_succ,List.getElem?_cons_zero,Option.getD_some];refine Lcl.wpSegs_f ?_;repeat (go_big_quiet_step (first | with_reducible rfl | exact ftext _ _ (by omega) _))
    refine wpQuiet_nil ?_;refine Lcl.wpSegs_nil ?_;rintro _ ⟨y,rfl⟩;clear ftext x0 x1 a1;refine Lcl.wpAny_of_G (S:=fun _=>True) (need:=fun j=>([]:List Nat).contains j) _ _ _ _ ?_;refine Lcl.wpG_run (needs:=[]) [7] _ _ _ (by kernel_rfl) ?_;simp only [List.map_cons,List.map_nil,List.getElem?_toArray,List.getElem?_cons_succ,List.getElem?_cons_zero,Option.getD_some];have BP5:=zz (BB2.out.old y.h);have FP5:=zz (F2.out.tr y.h);generalize y.w=wy2 at *;clear y;go_wp2_with fail
    refine (zw b _ _ _ BP5.out (by simp only [ByteArray.size_append]; omega)).mono ?_;rintro e w5 ⟨rfl,hbw,hbl,hkp⟩;have FF5:=zz (xZ FP5.out hbl hwb);rw [←hTo.out] at hbw;have BB5:=zz hbw;clear hbw hbl hkp FP5 BP5;go_wp2_with fail
    go_roundw
    case rel=>exact ⟨k+1,by go_num,by omega,FF5.out,BB5.out⟩
    case measure=>simp [intOf]; omega
   ·have hkl:k=rhs.length:=by omega
    subst hkl;go_wp2_with fail
    refine (kB b _ _ BB.out).mono ?_;rintro e w5 ⟨rfl,hbl⟩;have FF5:=zz (xZ F.out hbl hwb);have hEq:vd R=xR R rhs.length:=by unfold vd; rw [HRH.out]
    have HEQ:=zz hEq;clear hbl hEq;go_wp2_with fail
    go_ret2
    exact ⟨by rw [HEQ.out]; rfl,FF5.out⟩
 ·go_enter Tryz.func198,Tryz.ntmps198
  go_wp2_with fail
  refine HCK.out.mono ?_;rintro e w2 ⟨rfl,hf2⟩;have hb2:=(hf2.block _ (zA OB.out) fun h=>h).trans OB.out;have F2:=zz (FA.out.tr hf2);have OB2:=zz hb2;have d2:=(zB hb2 2).trans rfl;have d4:=(zB hb2 4).trans rfl;have fb:=(Fr.same w2).alloc (.cells #[.pointer none,.slice none 0 0] 358);have c0:=fb.cel ((zB hb2 0).trans rfl);have c1:=fb.cel ((zB hb2 1).trans rfl);simp [js] at d2 d4 c0 c1;clear hf2 hb2;have hwb:w.heap.size≤w2.heap.size:=F2.out.size;have hwl:w.heap.size < w2.heap.size:=zA OB2.out;have BB0:=zz ((zBb.made w2).old ((Fr.same _).alloc (.cells #[.int .i64 rat,.int .i64 rtm,.int .i64 2] 3)));have AR0:Hid (((w2.alloc (.cells #[.pointer none,.slice none 0 0] 358)).alloc (.cells #[.int .i64 rat,.int .i64 rtm,.int .i64 2] 3)).heap[w2.heap.size+1]?=some (.cells #[.int .i64 rat,.int .i64 rtm,.int .i64 2] 3 (0,0))):=
   zz (by have:=zC (w2.alloc (.cells #[.pointer none,.slice none 0 0] 358)) (.cells #[.int .i64 rat,.int .i64 rtm,.int .i64 2] 3); simpa using this)
  have hff:=(Fr.alloc fb (.cells #[.int .i64 rat,.int .i64 rtm,.int .i64 2] 3));have FF0:=zz (F2.out.tr hff);have OR0:=zz ((hff.block _ (zA OB2.out) fun h=>h).trans OB2.out);clear hff;go_wp2_with fail
  clear c0 c1 d2 d4 fb;generalize (w2.alloc (.cells #[.pointer none,.slice none 0 0] 358)).alloc (.cells #[.int .i64 rat,.int .i64 rtm,.int .i64 2] 3)=W3 at *;generalize w2.heap.size=b at *;refine wp_loop_rounds 4 ?_;rw [rounds_succ];have n0:=(zB AR0.out 0).trans rfl;simp at n0;go_wp2_with fail
  refine (xF _ _ WA.out).mono ?_;rintro e wp0 ⟨rfl,hfp⟩;have FP0:=zz (FF0.out.tr hfp);have BP0:=zz (BB0.out.old hfp);have AP0:=zz ((hfp.block _ (zA AR0.out) fun h=>h).trans AR0.out);have OP0:=zz ((hfp.block _ (zA OR0.out) fun h=>h).trans OR0.out);clear hfp n0;go_wp2_with fail
  refine (zw b _ _ _ BP0.out (by simp only [ByteArray.size_append,ByteArray.size_empty]; omega)).mono ?_;rintro e ww0 ⟨rfl,hbw,hbl,hkp⟩;have FF1:=zz (xZ FP0.out hbl hwb);have BB1:=zz hbw;have AR1:=zz (hkp _ _ _ _ (by omega) (by decide) AP0.out);have OR1:=zz (hkp _ _ _ _ (by omega) (by decide) OP0.out);clear hbw hbl hkp FP0 BP0 AP0 OP0 FF0 BB0 AR0 OR0;go_wp2_with fail
  rw [rounds_succ];have n1:=(zB AR1.out 1).trans rfl;simp at n1;go_wp2_with fail
  refine (xF _ _ WT.out).mono ?_;rintro e wp1 ⟨rfl,hfp⟩;have FP1:=zz (FF1.out.tr hfp);have BP1:=zz (BB1.out.old hfp);have AP1:=zz ((hfp.block _ (zA AR1.out) fun h=>h).trans AR1.out);have OP1:=zz ((hfp.block _ (zA OR1.out) fun h=>h).trans OR1.out);clear hfp n1;go_wp2_with fail
  refine (zw b _ _ _ BP1.out (by simp only [ByteArray.size_append,ByteArray.size_empty]; omega)).mono ?_;rintro e ww1 ⟨rfl,hbw,hbl,hkp⟩;have FF2:=zz (xZ FP1.out hbl hwb);have BB2:=zz hbw;have AR2:=zz (hkp _ _ _ _ (by omega) (by decide) AP1.out);have OR2:=zz (hkp _ _ _ _ (by omega) (by decide) OP1.out);clear hbw hbl hkp FP1 BP1 AP1 OP1 FF1 BB1 AR1 OR1;go_wp2_with fail
  rw [rounds_succ];have n2:=(zB AR2.out 2).trans rfl;simp at n2;go_wp2_with fail
  refine (xF _ _ WF.out).mono ?_;rintro e wp2 ⟨rfl,hfp⟩;have FP2:=zz (FF2.out.tr hfp);have BP2:=zz (BB2.out.old hfp);have AP2:=zz ((hfp.block _ (zA AR2.out) fun h=>h).trans AR2.out);have OP2:=zz ((hfp.block _ (zA OR2.out) fun h=>h).trans OR2.out);clear hfp n2;go_wp2_with fail
  refine (zw b _ _ _ BP2.out (by simp only [ByteArray.size_append,ByteArray.size_empty]; omega)).mono ?_;rintro e ww2 ⟨rfl,hbw,hbl,hkp⟩;have FF3:=zz (xZ FP2.out hbl hwb);have BB3:=zz hbw;have AR3:=zz (hkp _ _ _ _ (by omega) (by decide) AP2.out);have OR3:=zz (hkp _ _ _ _ (by omega) (by decide) OP2.out);clear hbw hbl hkp FP2 BP2 AP2 OP2 FF2 BB2 AR2 OR2;go_wp2_with fail
  rw [rounds_succ];go_wp2_with fail
  have fput:∀w1 (n:Int),(Lit.int .i64 n).wf=true→∀y:Lcl.InS (fun w'=>Fr (fun _=>False) w1 w'),Calls Tryz.prog 185 #[.int .i64 n] y.w fun e w'=>e=.returned (.string (zM n))∧∃y:Lcl.InS (fun w'=>Fr (fun _=>False) w1 w'),w'=y.w:=fun w1 n hn y=>uB y (xF n _ hn)
  have ftext:∀w1 (t:ByteArray),t.size≤1000000000→∀y:Lcl.InS (fun w'=>Fr (fun _=>False) w1 w'),Calls Tryz.prog 186 #[.string t] y.w fun e w'=>e=.returned (.string (zI t))∧∃y:Lcl.InS (fun w'=>Fr (fun _=>False) w1 w'),w'=y.w:=fun w1 t ht y=>uB y (yR t _ ht)
  have x3:∀y:Lcl.InS (fun w'=>Fr (fun _=>False) ww2 w'),y.w.cell? ⟨w.heap.size,3,none⟩=some (.string rkey):=fun y=>y.h.cel ((zB OR3.out 3).trans rfl)
  have x5:∀y:Lcl.InS (fun w'=>Fr (fun _=>False) ww2 w'),y.w.cell? ⟨w.heap.size,5,none⟩=some (.string rval):=fun y=>y.h.cel ((zB OR3.out 5).trans rfl)
  have x6:∀y:Lcl.InS (fun w'=>Fr (fun _=>False) ww2 w'),y.w.cell? ⟨w.heap.size,6,none⟩=some (.slice oa rhs.length cap):=fun y=>y.h.cel ((zB OR3.out 6).trans rfl)
  have a1:=fun w=>kC w (zI rkey) (zI rval) (by omega)
  have a2:=fun w=>kC w (zI rkey++zI rval) (zM rhs.length) (by rw [ByteArray.size_append]; omega)
  refine Lcl.wp_region_part (C:=fun w'=>∃y:Lcl.InS (fun w'=>Fr (fun _=>False) ww2 w'),w'=y.w) (by kernel_rfl) [(false,[0,1,2,3,4,5,6,7,8,9,10,11])] #[0,1,3,0,8,31,63,0,128,384,959,2047,4095] 1 #[true,true,true,true,true,true,true,true,true,true,true,true,false] (by kernel_rfl) (by kernel_rfl) (by kernel_rfl) ⟨⟨ww2.drew,(Fr.same ww2).drew⟩,rfl⟩ (fun d c a v w h=>by cases d <;> exact h) ?_;simp only [Lcl.opsOf,List.map_cons,List.map_nil,List.getElem?_toArray,List.getElem?_cons_succ,List.getElem?_cons_zero,Option.getD_some];refine Lcl.wpSegs_f ?_;repeat (go_big_quiet_step (first | with_reducible rfl | exact ftext _ _ (by omega) _ | exact fput _ _ WL.out _))
  refine wpQuiet_nil ?_;refine Lcl.wpSegs_nil ?_;rintro _ ⟨y,rfl⟩;clear fput ftext x3 x5 x6 a1 a2;refine Lcl.wpAny_of_G (S:=fun _=>True) (need:=fun j=>([]:List Nat).contains j) _ _ _ _ ?_;refine Lcl.wpG_run (needs:=[]) [12] _ _ _ (by kernel_rfl) ?_;simp only [List.map_cons,List.map_nil,List.getElem?_toArray,List.getElem?_cons_succ,List.getElem?_cons_zero,Option.getD_some];have BP3:=zz (BB3.out.old y.h);have FP3:=zz (FF3.out.tr y.h);have OP3:=zz ((y.h.block _ (zA OR3.out) fun h=>h).trans OR3.out);generalize y.w=wy at *;clear y;go_wp2_with fail
  refine (zw b _ _ _ BP3.out (by simp only [ByteArray.size_append,ByteArray.size_empty]; omega)).mono ?_;rintro e w4 ⟨rfl,hbw,hbl,hkp⟩;have FF4:=zz (xZ FP3.out hbl hwb);have BB4:=zz hbw;have OR4:=zz (hkp _ _ _ _ (by omega) (by decide) OP3.out);clear hbw hbl hkp FP3 BP3 OP3 FF3 BB3 AR3 OR3;have hT:ByteArray.empty++zM rat++zM rtm++zM 2++(zI rkey++zI rval++zM rhs.length)=xR R 0:=by
   show _=jP R
   rw [hEn.out.1];simp only [ByteArray.append_assoc,ByteArray.empty_append]
  rw [hT] at BB4;clear hT;have e6:=(zB OR4.out 6).trans rfl;simp at e6;go_wp2_with fail
  clear e6 HCK OB FA OB2 F2 OR4;have hRh:=hEn.out.2;have HRH:=zz hRh;clear hRh hEn;go_loopw [55] (fun i wr=>∃k:Nat,i=.int .i64 k∧k≤rhs.length∧Fr (fun _=>False) w wr∧zBb wr b (xR R k)) (fun i _=>rhs.length - (intOf i).toNat)
  case atStart=>exact ⟨0,rfl,Nat.zero_le _,FF4.out,BB4.out⟩
  case round=>
   clear FF4 BB4;obtain ⟨k,rfl,hk',hf,hbb⟩:=hrel;have F:=zz hf;have BB:=zz hbb;clear hf hbb;have esz:=um hRO.out k (by rw [HRH.out]; exact hk');rcases Nat.lt_or_ge k rhs.length with hlt | hge
   ·obtain ⟨x,hx⟩:=zH hlt
    obtain ⟨a,rfl,-,c0,c1⟩:=H.out k x hx;have c0:=F.out.cel c0;have c1:=F.out.cel c1;obtain ⟨g1,g2,g3⟩:=hRO.out.hdrs x (List.mem_of_getElem? (by rw [HRH.out]; exact hx));have hTo:Hid (xR R (k+1)=xR R k++(zI x.key++zI x.val)):=zz (by simp only [xR,HRH.out,hx,ByteArray.append_assoc]);have HX:=zz hx;have xk:=zp (show x.key.size≤1000000000 by omega);have xv:=zp (show x.val.size≤1000000000 by omega);have hf2:=(Fr.same wr).alloc (.cells #[.string x.key,.string x.val] 97);have F2:=zz (F.out.tr hf2);have OH:=zz (zC wr (.cells #[.string x.key,.string x.val] 97));have BB2:=zz (BB.out.old hf2);clear hx hf2;go_wp2_with fail
    clear c0 c1;generalize hwh:wr.alloc (.cells #[.string x.key,.string x.val] 97)=wh at *;clear hwh;have ftext:∀w1 (t:ByteArray),t.size≤1000000000→∀y:Lcl.InS (fun w'=>Fr (fun _=>False) w1 w'),Calls Tryz.prog 186 #[.string t] y.w fun e w'=>e=.returned (.string (zI t))∧∃y:Lcl.InS (fun w'=>Fr (fun _=>False) w1 w'),w'=y.w:=fun w1 t ht y=>uB y (yR t _ ht)
    have x0:∀y:Lcl.InS (fun w'=>Fr (fun _=>False) wh w'),y.w.cell? ⟨wr.heap.size,0,none⟩=some (.string x.key):=fun y=>y.h.cel ((zB OH.out 0).trans rfl)
    have x1:∀y:Lcl.InS (fun w'=>Fr (fun _=>False) wh w'),y.w.cell? ⟨wr.heap.size,1,none⟩=some (.string x.val):=fun y=>y.h.cel ((zB OH.out 1).trans rfl)
    have a1:=fun w=>kC w (zI x.key) (zI x.val) (by omega)
    refine Lcl.wp_region_part (C:=fun w'=>∃y:Lcl.InS (fun w'=>Fr (fun _=>False) wh w'),w'=y.w) (by kernel_rfl) [(false,[0,1,2,3,4,5,6])] #[0,1,3,0,8,31,63,127] 1 #[true,true,true,true,true,true,true,false] (by kernel_rfl) (by kernel_rfl) (by kernel_rfl) ⟨⟨wh.drew,(Fr.same wh).drew⟩,rfl⟩ (fun d c a v w h=>by cases d <;> exact h) ?_;simp only [Lcl.opsOf,List.map_cons,List.map_nil,List.getElem?_toArray,List.getElem?_cons_succ,List.getElem?_cons_zero,Option.getD_some];refine Lcl.wpSegs_f ?_;repeat (go_big_quiet_step (first | with_reducible rfl | exact ftext _ _ (by omega) _))
    refine wpQuiet_nil ?_;refine Lcl.wpSegs_nil ?_;rintro _ ⟨y,rfl⟩;clear ftext x0 x1 a1;refine Lcl.wpAny_of_G (S:=fun _=>True) (need:=fun j=>([]:List Nat).contains j) _ _ _ _ ?_;refine Lcl.wpG_run (needs:=[]) [7] _ _ _ (by kernel_rfl) ?_;simp only [List.map_cons,List.map_nil,List.getElem?_toArray,List.getElem?_cons_succ,List.getElem?_cons_zero,Option.getD_some];have BP5:=zz (BB2.out.old y.h);have FP5:=zz (F2.out.tr y.h);generalize y.w=wy2 at *;clear y;go_wp2_with fail
    refine (zw b _ _ _ BP5.out (by simp only [ByteArray.size_append]; omega)).mono ?_;rintro e w5 ⟨rfl,hbw,hbl,hkp⟩;have FF5:=zz (xZ FP5.out hbl hwb);rw [←hTo.out] at hbw;have BB5:=zz hbw;clear hbw hbl hkp FP5 BP5;go_wp2_with fail
    go_roundw
    case rel=>exact ⟨k+1,by go_num,by omega,FF5.out,BB5.out⟩
    case measure=>simp [intOf]; omega
   ·have hkl:k=rhs.length:=by omega
    subst hkl;go_wp2_with fail
    refine (kB b _ _ BB.out).mono ?_;rintro e w5 ⟨rfl,hbl⟩;have FF5:=zz (xZ F.out hbl hwb);have hEq:vd R=xR R rhs.length:=by unfold vd; rw [HRH.out]
    have HEQ:=zz hEq;clear hbl hEq;go_wp2_with fail
    go_ret2
    exact ⟨by rw [HEQ.out]; rfl,FF5.out⟩
theorem zVc (K:Nat→Prop) (r:Rec) (hv:Value) (w:World) (h:xi K w hv r.hs) (hr:¬jp r):
  Calls Tryz.prog 198 #[xy r hv] w fun e w'=>e=.returned (.tuple #[.string ByteArray.empty,.int .i64 1])∧Fr (fun _=>False) w w':=by
 have hck:=zVb K r hv (w.alloc (js r hv)) (h.old ((Fr.same w).alloc _)) hr;obtain ⟨oa,cap,rfl,h⟩:=h;have hobj:=zC w (js r (.slice oa r.hs.length cap));have hfa:=(Fr.same w).alloc (js r (.slice oa r.hs.length cap));have HCK:=zz hck;have OB:=zz hobj;have FA:=zz hfa;clear h hck hr hobj hfa;obtain ⟨rat,rtm,rbare,rkey,rgone,rval,rhs⟩:=r;unfold xy at *;dsimp only at *;go_enter Tryz.func198,Tryz.ntmps198
 go_wp2_with fail
 refine HCK.out.mono ?_;rintro e w2 ⟨rfl,hf2⟩;have F2:=zz (FA.out.tr hf2);clear hf2;go_wp2_with fail
 go_ret2
 exact ⟨rfl,F2.out⟩
end Go.Proofs.YtfdhofabgdkkkaaGreatDoor
