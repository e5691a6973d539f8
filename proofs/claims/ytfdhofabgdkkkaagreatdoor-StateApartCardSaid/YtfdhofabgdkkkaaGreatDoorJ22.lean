/- A part of the proof that what the machine is told keeps its bounds. -/
import Derived.Test.YtfdhofabgdkkkaaGreatDoorJ21
set_option maxHeartbeats 128000000
set_option maxRecDepth 100000
namespace Go.Proofs.YtfdhofabgdkkkaaGreatDoor
open Lib renaming hid→zz
open Go.RowKit Go.Fm Go.BigFrame Go.Shelf Go.Maps
set_option linter.unusedVariables false
set_option linter.unusedSimpArgs false
section
variable {w w':World} {S:Nat→Prop} {K:Nat→Prop}
def opL (op:Int) (nm vl:ByteArray) (n:Nat):List UInt8:=
 [dig op.toNat]++(if op=1∨op=2 then [dig n] else if op=4∨op=5 then (zI nm).data.toList else [])++(if op=5∨op=6∨op=7 then (zI vl).data.toList else [])
def exK:Fst→List UInt8
 | .nil=>[]
 | .cons op nm vl ks r=>(opL op nm vl ks.len++exK ks)++exK r
def exL (op:Int) (nm vl:ByteArray) (ks:Fst):List UInt8:=opL op nm vl ks.len++exK ks
theorem vo (op:Int) (nm vl:ByteArray) (ks r:Fst):exK (.cons op nm vl ks r)=exL op nm vl ks++exK r:=rfl
theorem zTm {s:ByteArray} (h:emB s=true):s.size=0:=by
 have e:s.toList=[]:=List.isEmpty_iff.1 h;rw [yv.2 e];rfl
theorem zNy {s:ByteArray} (h:zJn s=true):s.size≤1000:=by
 unfold zJn at h;simp only [Bool.and_eq_true,decide_eq_true_eq] at h
 have:=h.2
 omega
structure FitsIn (op:Int) (nm vl:ByteArray) (n:Nat):Prop where
 ops:0≤op∧op≤7
 nms:nm.size≤1000
 vls:vl.size≤1000
 len:n≤30
 len0:op=0∨4≤op→n=0
theorem jI {op:Int} {nm vl:ByteArray} {n:Nat} (h:yS op nm vl n=true):FitsIn op nm vl n:=by
 have hl:=zNu h;unfold yS at h;simp only [Bool.and_eq_true,decide_eq_true_eq] at h;obtain ⟨⟨⟨⟨h1,h2⟩,h3⟩,h4⟩,h5⟩:=h;refine ⟨h1,?_,?_,hl,?_⟩
 ·split at h2
  ·exact zNy h2
  ·have:=zTm h2; omega
 ·split at h3
  ·have:=of_decide_eq_true h3; omega
  ·split at h3
   ·exact zNy h3
   ·have:=zTm h3; omega
 ·intro h0
  rw [if_neg (by omega),if_neg (by omega)] at h5;omega
theorem zTn {op:Int} {nm vl:ByteArray} {n:Nat} (h:FitsIn op nm vl n):(opL op nm vl n).length≤2021:=by
 have h1:=zp (show nm.size≤1000000000 by have:=h.nms; omega);have h2:=zp (show vl.size≤1000000000 by have:=h.vls; omega);have a:=h.nms;have b:=h.vls;unfold opL;simp only [List.length_append,List.length_singleton];split
 ·split
  ·simp only [List.length_singleton,Array.length_toList,ByteArray.size_data]; omega
  ·simp
 ·split
  ·split
   ·simp only [Array.length_toList,ByteArray.size_data]; omega
   ·simp only [Array.length_toList,ByteArray.size_data,List.length_nil]; omega
  ·split
   ·simp only [Array.length_toList,ByteArray.size_data,List.length_nil]; omega
   ·simp
theorem zLj:∀(F:Fst) (l:Nat),zCs F l=true→(exK F).length≤2021 * F.sz
 | .nil,l,_=>by simp [exK,Fst.sz]
 | .cons op nm vl ks r,l,h=>by
  simp only [zCs,Bool.and_eq_true] at h;obtain ⟨⟨⟨-,h1⟩,h2⟩,h3⟩:=h
  have:=zTn (jI h1)
  have:=zLj ks _ h2
  have:=zLj r _ h3
  simp only [exK,Fst.sz,List.length_append];omega
def kJ (B:Nat) (w:World) (L:List UInt8) (e:Ending) (w':World):Prop:=
 ∃v',e=.returned v'∧uN w' B v' L∧Fr5 B w w'
def WrIH (K:Nat→Prop) (B m:Nat):Prop:=∀(ks:Fst) (op:Int) (nm vl:ByteArray) (kv:Value) (l:Nat) (v:Value) (bs:List UInt8) (w:World),ks.sz < m→yz op nm vl ks l=true→bs.length+(exL op nm vl ks).length≤1000000000→
 xV K w kv ks→B≤w.heap.size→uN w B v bs→Calls Tryz.prog 237 #[v,exV op nm vl kv] w (kJ B w (bs++exL op nm vl ks))
theorem zCv {ks:Fst} (h:ks.len=0):ks=.nil:=by cases ks with | nil=>rfl | cons=>simp [Fst.len] at h
theorem yi {op:Int} {nm vl:ByteArray} {ks:Fst} {l:Nat} (h:yz op nm vl ks l=true):yS op nm vl ks.len=true∧zCs ks (l - 1)=true:=by
 unfold yz at h;simp only [Bool.and_eq_true] at h;exact ⟨h.1.2,h.2⟩
theorem zLk:∀ {F:Fst} {k:Nat} {op:Int} {nm vl:ByteArray} {xs r:Fst} {l:Nat},zCs F l=true→F.drop k=.cons op nm vl xs r→yz op nm vl xs l=true
 | .nil,k,op,nm,vl,xs,r,l,h,hd=>by rw [Fst.drop_nil] at hd; cases hd
 | .cons op nm vl ks r,0,op',nm',vl',xs,r',l,h,hd=>by
  rw [Fst.drop_zero] at hd;cases hd
  rw [vn,Bool.and_eq_true] at h;exact h.1
 | .cons op nm vl ks r,k+1,op',nm',vl',xs,r',l,h,hd=>by
  rw [vn,Bool.and_eq_true] at h;exact zLk h.2 hd
theorem zWo (B m:Nat) (ho:∀i,K i→i < B) (ks:Fst) (nm vl:ByteArray) (kv:Value) (l:Nat) (v:Value) (bs:List UInt8) (w:World) (hp:yz 0 nm vl ks l=true) (hlen:bs.length+(exL 0 nm vl ks).length≤1000000000)
  (hk:xV K w kv ks) (hB:B≤w.heap.size) (hown:uN w B v bs):Calls Tryz.prog 237 #[v,exV 0 nm vl kv] w (kJ B w (bs++exL 0 nm vl ks)):=by
 obtain ⟨hfit,hall⟩:=yi hp;have hin:=jI hfit;have hn:=hin.len;have HKL:=zz hin.len0;obtain ⟨oa,cap,rfl,-⟩:=id hk;unfold exV;unfold exL at hlen;rw [List.length_append] at hlen;have hl1:bs.length≤1000000000:=by omega
 have f1:=(Fr.same w).alloc (.cells #[.int .i64 0,.string nm,.string vl,.slice oa ks.len cap] 38);have f2:=f1.alloc (.cells #[.int .u8 0] 5);have s1:(w.alloc (.cells #[.int .i64 0,.string nm,.string vl,.slice oa ks.len cap] 38)).heap.size=w.heap.size+1:=by simp
 have O2:=zz ((hown.alloc (.cells #[.int .i64 0,.string nm,.string vl,.slice oa ks.len cap] 38)).alloc (.cells #[.int .u8 0] 5));have X2:=zz ((zF (.cells #[.int .u8 0] 5) (zA (zC w (.cells #[.int .i64 0,.string nm,.string vl,.slice oa ks.len cap] 38)))).trans (zC w (.cells #[.int .i64 0,.string nm,.string vl,.slice oa ks.len cap] 38)));have c2:=zD (w.alloc (.cells #[.int .i64 0,.string nm,.string vl,.slice oa ks.len cap] 38)) #[.int .u8 0] 5 0;rw [s1] at c2;have C2:=zz c2;have F2:=zz (Fr5.of (B:=B) f2);have KW:=zz hk;have B2:=zz (Nat.le_trans hB f2.size);have dx:=zD w #[.int .i64 0,.string nm,.string vl,.slice oa ks.len cap] 38;clear f1 f2 s1 c2 hown hk;go_enter Tryz.func237,Tryz.ntmps237
 go_wp2_with (at_builtin; refine uC rfl (.tmp 7) (.tmp 11) rfl B v bs rfl O2.out (dig 0) (w.heap.size+1) rfl (by exact C2.out) hl1 B2.out ?_)
 intro v1 w1 L1 H1 o1 g1;have O1:=zz o1;have F1:=zz (F2.out.tr g1);have X1:=zz (g1.keep X2.out (by decide));have B1:=zz (Nat.le_trans B2.out g1.size);clear o1 g1 O2 X2 F2 C2 B2 dx;have dx:=zB X1.out;have hk0:ks=.nil:=zCv (HKL.out (by decide));subst hk0;go_wp2_with fail
 refine wp_loop_rounds 1 ?_;rw [rounds_succ];go_wp2_with fail
 go_ret
 refine ⟨_,rfl,?_,F1.out⟩;have e:bs++(opL 0 nm vl Fst.nil.len++exK .nil)=L1:=by rw [H1.out]; simp [opL,exK,dig,Fst.len]
 unfold exL;rw [e];exact O1.out
theorem zWp (B m:Nat) (ho:∀i,K i→i < B) (ih:WrIH K B m) (ks:Fst) (nm vl:ByteArray) (kv:Value) (l:Nat) (v:Value) (bs:List UInt8) (w:World) (hm:ks.sz < m+1) (hp:yz 1 nm vl ks l=true) (hlen:bs.length+(exL 1 nm vl ks).length≤1000000000)
  (hk:xV K w kv ks) (hB:B≤w.heap.size) (hown:uN w B v bs):Calls Tryz.prog 237 #[v,exV 1 nm vl kv] w (kJ B w (bs++exL 1 nm vl ks)):=by
 obtain ⟨hfit,hall⟩:=yi hp;have hin:=jI hfit;have hn:=hin.len;have HKL:=zz hin.len0;obtain ⟨oa,cap,rfl,-⟩:=id hk;unfold exV;unfold exL at hlen;rw [List.length_append] at hlen;have hl1:bs.length≤1000000000:=by omega
 have f1:=(Fr.same w).alloc (.cells #[.int .i64 1,.string nm,.string vl,.slice oa ks.len cap] 38);have f2:=f1.alloc (.cells #[.int .u8 1] 5);have s1:(w.alloc (.cells #[.int .i64 1,.string nm,.string vl,.slice oa ks.len cap] 38)).heap.size=w.heap.size+1:=by simp
 have O2:=zz ((hown.alloc (.cells #[.int .i64 1,.string nm,.string vl,.slice oa ks.len cap] 38)).alloc (.cells #[.int .u8 1] 5));have X2:=zz ((zF (.cells #[.int .u8 1] 5) (zA (zC w (.cells #[.int .i64 1,.string nm,.string vl,.slice oa ks.len cap] 38)))).trans (zC w (.cells #[.int .i64 1,.string nm,.string vl,.slice oa ks.len cap] 38)));have c2:=zD (w.alloc (.cells #[.int .i64 1,.string nm,.string vl,.slice oa ks.len cap] 38)) #[.int .u8 1] 5 0;rw [s1] at c2;have C2:=zz c2;have F2:=zz (Fr5.of (B:=B) f2);have KW:=zz hk;have B2:=zz (Nat.le_trans hB f2.size);have dx:=zD w #[.int .i64 1,.string nm,.string vl,.slice oa ks.len cap] 38;clear f1 f2 s1 c2 hown hk;go_enter Tryz.func237,Tryz.ntmps237
 go_wp2_with (at_builtin; refine uC rfl (.tmp 7) (.tmp 11) rfl B v bs rfl O2.out (dig 1) (w.heap.size+1) rfl (by exact C2.out) hl1 B2.out ?_)
 intro v1 w1 L1 H1 o1 g1;have O1:=zz o1;have F1:=zz (F2.out.tr g1);have X1:=zz (g1.keep X2.out (by decide));have B1:=zz (Nat.le_trans B2.out g1.size);clear o1 g1 O2 X2 F2 C2 B2 dx;have dx:=zB X1.out;have hwr:IntKind.u8.wrap (ks.len:Int)=ks.len:=by simp [IntKind.wrap,IntKind.bits,IntKind.signed]; omega
 have c3:=zD w1 #[.int .u8 (ks.len:Int)] 5 0;have C3:=zz (show (w1.alloc (.cells #[.int .u8 (ks.len:Int)] 5)).cell? ⟨w1.heap.size,0,none⟩=some (zL (dig ks.len)) by rw [yK (by omega)]; exact c3);have O3:=zz (O1.out.alloc (.cells #[.int .u8 (ks.len:Int)] 5));have F3:=zz (F1.out.tr (Fr5.of ((Fr.same w1).alloc (.cells #[.int .u8 (ks.len:Int)] 5))));have X3:=zz (blk X1.out ((Fr.same w1).alloc (.cells #[.int .u8 (ks.len:Int)] 5)) fun h=>h);have B3:=zz (Nat.le_trans B1.out ((Fr.same w1).alloc (.cells #[.int .u8 (ks.len:Int)] 5)).size);have hl3:L1.length≤1000000000:=by rw [H1.out,List.length_append]; simp [opL] at hlen; simp; omega
 clear c3;go_wp2_with (at_builtin; refine uC rfl (.tmp 18) (.tmp 23) rfl B v1 L1 rfl O3.out (dig ks.len) w1.heap.size rfl C3.out hl3 B3.out ?_)
 intro v4 w4 L4 H4 o4 g4;have O4:=zz o4;have F4:=zz (F3.out.tr g4);have X4:=zz (g4.keep X3.out (by decide));have B4:=zz (Nat.le_trans B3.out g4.size);clear o4 g4 O3 X3 F3 C3 B3 O1 F1 X1 B1 dx hwr;have dx:=zB X4.out;have E0:=zz (show bs++exL 1 nm vl ks=L4++exK ks by rw [H4.out,H1.out]; simp [exL,opL,dig]);obtain ⟨b0,hb0⟩:∃b,b=L4:=⟨_,rfl⟩;rw [←hb0] at O4 E0;have HB0:=zz (show b0.length+(exK ks).length≤1000000000 by rw [hb0,H4.out,H1.out]; simp [opL] at hlen; simp; omega);clear hb0;go_wp2_with fail
 go_loopw [0,47] (fun b i wr=>∃(k:Nat) (bs':List UInt8),i=.int .i64 k∧k≤ks.len∧bs'++exK (ks.drop k)=b0++exK ks∧uN wr B b bs'∧Fr5 B w wr∧B≤wr.heap.size) (fun _ i _=>ks.len - (intOf i).toNat)
 case atStart=>exact ⟨0,b0,rfl,Nat.zero_le _,by rw [Fst.drop_zero],O4.out,F4.out,B4.out⟩
 case round=>
  obtain ⟨k,bs',rfl,hk,hbs,hO,hF,hBr⟩:=hrel;have OO:=zz hO;have FF:=zz hF;have BB:=zz hBr;have EE:=zz hbs;clear hO hF hBr hbs dx;rcases Nat.lt_or_ge k ks.len with hlt | hge
  ·obtain ⟨op1,nm1,vl1,xs,hd,hsz⟩:=ks.drop_at k hlt
   obtain ⟨a,kv1,rfl,hKa,hpt,hkid⟩:=(KW.out.fr FF.out fun i hi hS=>by have:=ho i hi; omega).at hd hlt;obtain ⟨c0,c1,c2,c3⟩:=hpt;obtain ⟨oa1,cap1,rfl,-⟩:=id hkid;have fa:=(Fr.same wr).alloc (.cells #[.int .i64 op1,.string nm1,.string vl1,.slice oa1 xs.len cap1] 38);have hlx:bs'.length+(exL op1 nm1 vl1 xs).length≤1000000000:=by
    have e:=congrArg List.length EE.out;have h0:=HB0.out;rw [hd,vo] at e;simp only [List.length_append] at e;omega
   have IH:=zz (ih xs op1 nm1 vl1 _ (l - 1) _ bs' _ (by omega) (zLk hall hd) hlx (hkid.old fa) (Nat.le_trans BB.out fa.size) (OO.out.alloc (.cells #[.int .i64 op1,.string nm1,.string vl1,.slice oa1 xs.len cap1] 38)));have HD:=zz hd;have FA:=zz (FF.out.tr (Fr5.of fa));have BA:=zz (Nat.le_trans BB.out fa.size);unfold exV at IH;have dx:=zD wr #[.int .i64 op1,.string nm1,.string vl1,.slice oa1 xs.len cap1] 38;clear fa hkid hd FF OO BB hlx;go_wp2_with fail
   refine IH.out.mono ?_;rintro e w9 ⟨v9,rfl,o9,g9⟩;have O9:=zz o9;have F9:=zz (FA.out.tr g9);have B9:=zz (Nat.le_trans BA.out g9.size);clear o9 g9 IH dx;go_wp2_with fail
   go_roundw
   case rel=>
    have e:=EE.out;rw [HD.out,vo,←List.append_assoc] at e;exact ⟨k+1,_,by go_num,by omega,e,O9.out,F9.out,B9.out⟩
   case measure=>simp [intOf]; omega
  ·obtain rfl:k=ks.len:=by omega
   have e:=EE.out;rw [Fst.drop_end] at e;have E2:=zz (show bs'=b0++exK ks by rw [←e]; simp [exK]);clear e;go_wp2_with fail
   go_ret
   refine ⟨_,rfl,?_,FF.out⟩;rw [E0.out,←E2.out];exact OO.out
theorem zWq (B m:Nat) (ho:∀i,K i→i < B) (ih:WrIH K B m) (ks:Fst) (nm vl:ByteArray) (kv:Value) (l:Nat) (v:Value) (bs:List UInt8) (w:World) (hm:ks.sz < m+1) (hp:yz 2 nm vl ks l=true) (hlen:bs.length+(exL 2 nm vl ks).length≤1000000000)
  (hk:xV K w kv ks) (hB:B≤w.heap.size) (hown:uN w B v bs):Calls Tryz.prog 237 #[v,exV 2 nm vl kv] w (kJ B w (bs++exL 2 nm vl ks)):=by
 obtain ⟨hfit,hall⟩:=yi hp;have hin:=jI hfit;have hn:=hin.len;have HKL:=zz hin.len0;obtain ⟨oa,cap,rfl,-⟩:=id hk;unfold exV;unfold exL at hlen;rw [List.length_append] at hlen;have hl1:bs.length≤1000000000:=by omega
 have f1:=(Fr.same w).alloc (.cells #[.int .i64 2,.string nm,.string vl,.slice oa ks.len cap] 38);have f2:=f1.alloc (.cells #[.int .u8 2] 5);have s1:(w.alloc (.cells #[.int .i64 2,.string nm,.string vl,.slice oa ks.len cap] 38)).heap.size=w.heap.size+1:=by simp
 have O2:=zz ((hown.alloc (.cells #[.int .i64 2,.string nm,.string vl,.slice oa ks.len cap] 38)).alloc (.cells #[.int .u8 2] 5));have X2:=zz ((zF (.cells #[.int .u8 2] 5) (zA (zC w (.cells #[.int .i64 2,.string nm,.string vl,.slice oa ks.len cap] 38)))).trans (zC w (.cells #[.int .i64 2,.string nm,.string vl,.slice oa ks.len cap] 38)));have c2:=zD (w.alloc (.cells #[.int .i64 2,.string nm,.string vl,.slice oa ks.len cap] 38)) #[.int .u8 2] 5 0;rw [s1] at c2;have C2:=zz c2;have F2:=zz (Fr5.of (B:=B) f2);have KW:=zz hk;have B2:=zz (Nat.le_trans hB f2.size);have dx:=zD w #[.int .i64 2,.string nm,.string vl,.slice oa ks.len cap] 38;clear f1 f2 s1 c2 hown hk;go_enter Tryz.func237,Tryz.ntmps237
 go_wp2_with (at_builtin; refine uC rfl (.tmp 7) (.tmp 11) rfl B v bs rfl O2.out (dig 2) (w.heap.size+1) rfl (by exact C2.out) hl1 B2.out ?_)
 intro v1 w1 L1 H1 o1 g1;have O1:=zz o1;have F1:=zz (F2.out.tr g1);have X1:=zz (g1.keep X2.out (by decide));have B1:=zz (Nat.le_trans B2.out g1.size);clear o1 g1 O2 X2 F2 C2 B2 dx;have dx:=zB X1.out;have hwr:IntKind.u8.wrap (ks.len:Int)=ks.len:=by simp [IntKind.wrap,IntKind.bits,IntKind.signed]; omega
 have c3:=zD w1 #[.int .u8 (ks.len:Int)] 5 0;have C3:=zz (show (w1.alloc (.cells #[.int .u8 (ks.len:Int)] 5)).cell? ⟨w1.heap.size,0,none⟩=some (zL (dig ks.len)) by rw [yK (by omega)]; exact c3);have O3:=zz (O1.out.alloc (.cells #[.int .u8 (ks.len:Int)] 5));have F3:=zz (F1.out.tr (Fr5.of ((Fr.same w1).alloc (.cells #[.int .u8 (ks.len:Int)] 5))));have X3:=zz (blk X1.out ((Fr.same w1).alloc (.cells #[.int .u8 (ks.len:Int)] 5)) fun h=>h);have B3:=zz (Nat.le_trans B1.out ((Fr.same w1).alloc (.cells #[.int .u8 (ks.len:Int)] 5)).size);have hl3:L1.length≤1000000000:=by rw [H1.out,List.length_append]; simp [opL] at hlen; simp; omega
 clear c3;go_wp2_with (at_builtin; refine uC rfl (.tmp 18) (.tmp 23) rfl B v1 L1 rfl O3.out (dig ks.len) w1.heap.size rfl C3.out hl3 B3.out ?_)
 intro v4 w4 L4 H4 o4 g4;have O4:=zz o4;have F4:=zz (F3.out.tr g4);have X4:=zz (g4.keep X3.out (by decide));have B4:=zz (Nat.le_trans B3.out g4.size);clear o4 g4 O3 X3 F3 C3 B3 O1 F1 X1 B1 dx hwr;have dx:=zB X4.out;have E0:=zz (show bs++exL 2 nm vl ks=L4++exK ks by rw [H4.out,H1.out]; simp [exL,opL,dig]);obtain ⟨b0,hb0⟩:∃b,b=L4:=⟨_,rfl⟩;rw [←hb0] at O4 E0;have HB0:=zz (show b0.length+(exK ks).length≤1000000000 by rw [hb0,H4.out,H1.out]; simp [opL] at hlen; simp; omega);clear hb0;go_wp2_with fail
 go_loopw [0,47] (fun b i wr=>∃(k:Nat) (bs':List UInt8),i=.int .i64 k∧k≤ks.len∧bs'++exK (ks.drop k)=b0++exK ks∧uN wr B b bs'∧Fr5 B w wr∧B≤wr.heap.size) (fun _ i _=>ks.len - (intOf i).toNat)
 case atStart=>exact ⟨0,b0,rfl,Nat.zero_le _,by rw [Fst.drop_zero],O4.out,F4.out,B4.out⟩
 case round=>
  obtain ⟨k,bs',rfl,hk,hbs,hO,hF,hBr⟩:=hrel;have OO:=zz hO;have FF:=zz hF;have BB:=zz hBr;have EE:=zz hbs;clear hO hF hBr hbs dx;rcases Nat.lt_or_ge k ks.len with hlt | hge
  ·obtain ⟨op1,nm1,vl1,xs,hd,hsz⟩:=ks.drop_at k hlt
   obtain ⟨a,kv1,rfl,hKa,hpt,hkid⟩:=(KW.out.fr FF.out fun i hi hS=>by have:=ho i hi; omega).at hd hlt;obtain ⟨c0,c1,c2,c3⟩:=hpt;obtain ⟨oa1,cap1,rfl,-⟩:=id hkid;have fa:=(Fr.same wr).alloc (.cells #[.int .i64 op1,.string nm1,.string vl1,.slice oa1 xs.len cap1] 38);have hlx:bs'.length+(exL op1 nm1 vl1 xs).length≤1000000000:=by
    have e:=congrArg List.length EE.out;have h0:=HB0.out;rw [hd,vo] at e;simp only [List.length_append] at e;omega
   have IH:=zz (ih xs op1 nm1 vl1 _ (l - 1) _ bs' _ (by omega) (zLk hall hd) hlx (hkid.old fa) (Nat.le_trans BB.out fa.size) (OO.out.alloc (.cells #[.int .i64 op1,.string nm1,.string vl1,.slice oa1 xs.len cap1] 38)));have HD:=zz hd;have FA:=zz (FF.out.tr (Fr5.of fa));have BA:=zz (Nat.le_trans BB.out fa.size);unfold exV at IH;have dx:=zD wr #[.int .i64 op1,.string nm1,.string vl1,.slice oa1 xs.len cap1] 38;clear fa hkid hd FF OO BB hlx;go_wp2_with fail
   refine IH.out.mono ?_;rintro e w9 ⟨v9,rfl,o9,g9⟩;have O9:=zz o9;have F9:=zz (FA.out.tr g9);have B9:=zz (Nat.le_trans BA.out g9.size);clear o9 g9 IH dx;go_wp2_with fail
   go_roundw
   case rel=>
    have e:=EE.out;rw [HD.out,vo,←List.append_assoc] at e;exact ⟨k+1,_,by go_num,by omega,e,O9.out,F9.out,B9.out⟩
   case measure=>simp [intOf]; omega
  ·obtain rfl:k=ks.len:=by omega
   have e:=EE.out;rw [Fst.drop_end] at e;have E2:=zz (show bs'=b0++exK ks by rw [←e]; simp [exK]);clear e;go_wp2_with fail
   go_ret
   refine ⟨_,rfl,?_,FF.out⟩;rw [E0.out,←E2.out];exact OO.out
theorem zWr (B m:Nat) (ho:∀i,K i→i < B) (ih:WrIH K B m) (ks:Fst) (nm vl:ByteArray) (kv:Value) (l:Nat) (v:Value) (bs:List UInt8) (w:World) (hm:ks.sz < m+1) (hp:yz 3 nm vl ks l=true) (hlen:bs.length+(exL 3 nm vl ks).length≤1000000000)
  (hk:xV K w kv ks) (hB:B≤w.heap.size) (hown:uN w B v bs):Calls Tryz.prog 237 #[v,exV 3 nm vl kv] w (kJ B w (bs++exL 3 nm vl ks)):=by
 obtain ⟨hfit,hall⟩:=yi hp;have hin:=jI hfit;have hn:=hin.len;have HKL:=zz hin.len0;obtain ⟨oa,cap,rfl,-⟩:=id hk;unfold exV;unfold exL at hlen;rw [List.length_append] at hlen;have hl1:bs.length≤1000000000:=by omega
 have f1:=(Fr.same w).alloc (.cells #[.int .i64 3,.string nm,.string vl,.slice oa ks.len cap] 38);have f2:=f1.alloc (.cells #[.int .u8 3] 5);have s1:(w.alloc (.cells #[.int .i64 3,.string nm,.string vl,.slice oa ks.len cap] 38)).heap.size=w.heap.size+1:=by simp
 have O2:=zz ((hown.alloc (.cells #[.int .i64 3,.string nm,.string vl,.slice oa ks.len cap] 38)).alloc (.cells #[.int .u8 3] 5));have X2:=zz ((zF (.cells #[.int .u8 3] 5) (zA (zC w (.cells #[.int .i64 3,.string nm,.string vl,.slice oa ks.len cap] 38)))).trans (zC w (.cells #[.int .i64 3,.string nm,.string vl,.slice oa ks.len cap] 38)));have c2:=zD (w.alloc (.cells #[.int .i64 3,.string nm,.string vl,.slice oa ks.len cap] 38)) #[.int .u8 3] 5 0;rw [s1] at c2;have C2:=zz c2;have F2:=zz (Fr5.of (B:=B) f2);have KW:=zz hk;have B2:=zz (Nat.le_trans hB f2.size);have dx:=zD w #[.int .i64 3,.string nm,.string vl,.slice oa ks.len cap] 38;clear f1 f2 s1 c2 hown hk;go_enter Tryz.func237,Tryz.ntmps237
 go_wp2_with (at_builtin; refine uC rfl (.tmp 7) (.tmp 11) rfl B v bs rfl O2.out (dig 3) (w.heap.size+1) rfl (by exact C2.out) hl1 B2.out ?_)
 intro v1 w1 L1 H1 o1 g1;have O1:=zz o1;have F1:=zz (F2.out.tr g1);have X1:=zz (g1.keep X2.out (by decide));have B1:=zz (Nat.le_trans B2.out g1.size);clear o1 g1 O2 X2 F2 C2 B2 dx;have dx:=zB X1.out;have E0:=zz (show bs++exL 3 nm vl ks=L1++exK ks by rw [H1.out]; simp [exL,opL,dig]);obtain ⟨b0,hb0⟩:∃b,b=L1:=⟨_,rfl⟩;rw [←hb0] at O1 E0;have HB0:=zz (show b0.length+(exK ks).length≤1000000000 by rw [hb0,H1.out]; simp [opL] at hlen; simp; omega);clear hb0;go_wp2_with fail
 go_loopw [0,47] (fun b i wr=>∃(k:Nat) (bs':List UInt8),i=.int .i64 k∧k≤ks.len∧bs'++exK (ks.drop k)=b0++exK ks∧uN wr B b bs'∧Fr5 B w wr∧B≤wr.heap.size) (fun _ i _=>ks.len - (intOf i).toNat)
 case atStart=>exact ⟨0,b0,rfl,Nat.zero_le _,by rw [Fst.drop_zero],O1.out,F1.out,B1.out⟩
 case round=>
  obtain ⟨k,bs',rfl,hk,hbs,hO,hF,hBr⟩:=hrel;have OO:=zz hO;have FF:=zz hF;have BB:=zz hBr;have EE:=zz hbs;clear hO hF hBr hbs dx;rcases Nat.lt_or_ge k ks.len with hlt | hge
  ·obtain ⟨op1,nm1,vl1,xs,hd,hsz⟩:=ks.drop_at k hlt
   obtain ⟨a,kv1,rfl,hKa,hpt,hkid⟩:=(KW.out.fr FF.out fun i hi hS=>by have:=ho i hi; omega).at hd hlt;obtain ⟨c0,c1,c2,c3⟩:=hpt;obtain ⟨oa1,cap1,rfl,-⟩:=id hkid;have fa:=(Fr.same wr).alloc (.cells #[.int .i64 op1,.string nm1,.string vl1,.slice oa1 xs.len cap1] 38);have hlx:bs'.length+(exL op1 nm1 vl1 xs).length≤1000000000:=by
    have e:=congrArg List.length EE.out;have h0:=HB0.out;rw [hd,vo] at e;simp only [List.length_append] at e;omega
   have IH:=zz (ih xs op1 nm1 vl1 _ (l - 1) _ bs' _ (by omega) (zLk hall hd) hlx (hkid.old fa) (Nat.le_trans BB.out fa.size) (OO.out.alloc (.cells #[.int .i64 op1,.string nm1,.string vl1,.slice oa1 xs.len cap1] 38)));have HD:=zz hd;have FA:=zz (FF.out.tr (Fr5.of fa));have BA:=zz (Nat.le_trans BB.out fa.size);unfold exV at IH;have dx:=zD wr #[.int .i64 op1,.string nm1,.string vl1,.slice oa1 xs.len cap1] 38;clear fa hkid hd FF OO BB hlx;go_wp2_with fail
   refine IH.out.mono ?_;rintro e w9 ⟨v9,rfl,o9,g9⟩;have O9:=zz o9;have F9:=zz (FA.out.tr g9);have B9:=zz (Nat.le_trans BA.out g9.size);clear o9 g9 IH dx;go_wp2_with fail
   go_roundw
   case rel=>
    have e:=EE.out;rw [HD.out,vo,←List.append_assoc] at e;exact ⟨k+1,_,by go_num,by omega,e,O9.out,F9.out,B9.out⟩
   case measure=>simp [intOf]; omega
  ·obtain rfl:k=ks.len:=by omega
   have e:=EE.out;rw [Fst.drop_end] at e;have E2:=zz (show bs'=b0++exK ks by rw [←e]; simp [exK]);clear e;go_wp2_with fail
   go_ret
   refine ⟨_,rfl,?_,FF.out⟩;rw [E0.out,←E2.out];exact OO.out
theorem zWs (B m:Nat) (ho:∀i,K i→i < B) (ks:Fst) (nm vl:ByteArray) (kv:Value) (l:Nat) (v:Value) (bs:List UInt8) (w:World) (hp:yz 4 nm vl ks l=true) (hlen:bs.length+(exL 4 nm vl ks).length≤1000000000)
  (hk:xV K w kv ks) (hB:B≤w.heap.size) (hown:uN w B v bs):Calls Tryz.prog 237 #[v,exV 4 nm vl kv] w (kJ B w (bs++exL 4 nm vl ks)):=by
 obtain ⟨hfit,hall⟩:=yi hp;have hin:=jI hfit;have hn:=hin.len;have HKL:=zz hin.len0;obtain ⟨oa,cap,rfl,-⟩:=id hk;unfold exV;unfold exL at hlen;rw [List.length_append] at hlen;have hl1:bs.length≤1000000000:=by omega
 have f1:=(Fr.same w).alloc (.cells #[.int .i64 4,.string nm,.string vl,.slice oa ks.len cap] 38);have f2:=f1.alloc (.cells #[.int .u8 4] 5);have s1:(w.alloc (.cells #[.int .i64 4,.string nm,.string vl,.slice oa ks.len cap] 38)).heap.size=w.heap.size+1:=by simp
 have O2:=zz ((hown.alloc (.cells #[.int .i64 4,.string nm,.string vl,.slice oa ks.len cap] 38)).alloc (.cells #[.int .u8 4] 5));have X2:=zz ((zF (.cells #[.int .u8 4] 5) (zA (zC w (.cells #[.int .i64 4,.string nm,.string vl,.slice oa ks.len cap] 38)))).trans (zC w (.cells #[.int .i64 4,.string nm,.string vl,.slice oa ks.len cap] 38)));have c2:=zD (w.alloc (.cells #[.int .i64 4,.string nm,.string vl,.slice oa ks.len cap] 38)) #[.int .u8 4] 5 0;rw [s1] at c2;have C2:=zz c2;have F2:=zz (Fr5.of (B:=B) f2);have KW:=zz hk;have B2:=zz (Nat.le_trans hB f2.size);have dx:=zD w #[.int .i64 4,.string nm,.string vl,.slice oa ks.len cap] 38;clear f1 f2 s1 c2 hown hk;go_enter Tryz.func237,Tryz.ntmps237
 go_wp2_with (at_builtin; refine uC rfl (.tmp 7) (.tmp 11) rfl B v bs rfl O2.out (dig 4) (w.heap.size+1) rfl (by exact C2.out) hl1 B2.out ?_)
 intro v1 w1 L1 H1 o1 g1;have O1:=zz o1;have F1:=zz (F2.out.tr g1);have X1:=zz (g1.keep X2.out (by decide));have B1:=zz (Nat.le_trans B2.out g1.size);clear o1 g1 O2 X2 F2 C2 B2 dx;have dx:=zB X1.out;have T5:=zz (yR nm w1 (by have:=hin.nms; omega));have hs5:=zp (show nm.size≤1000000000 by have:=hin.nms; omega);go_wp2_with fail
 refine T5.out.mono ?_;rintro e x5 ⟨rfl,g⟩;have O5a:=zz (O1.out.old g);have F5a:=zz (F1.out.tr (Fr5.of g));have X5a:=zz (blk X1.out g fun h=>h);have B5a:=zz (Nat.le_trans B1.out g.size);have hl5:L1.length+(zI nm).size≤1000000000:=by rw [H1.out]; simp [opL] at hlen; simp; omega
 clear g T5 O1 F1 X1 B1 dx;go_wp2_with (at_builtin; refine zCu rfl (.tmp 28) (.tmp 31) 9 Tryz.underlying9 rfl B v1 L1 rfl O5a.out (zI nm) rfl hl5 B5a.out ?_)
 intro v5 w5 L5 H5 o g;have O5:=zz o;have F5:=zz (F5a.out.tr g);have X5:=zz (g.keep X5a.out (by decide));have B5:=zz (Nat.le_trans B5a.out g.size);clear o g O5a F5a X5a B5a;have dx:=zB X5.out;have hk0:ks=.nil:=zCv (HKL.out (by decide));subst hk0;go_wp2_with fail
 refine wp_loop_rounds 1 ?_;rw [rounds_succ];go_wp2_with fail
 go_ret
 refine ⟨_,rfl,?_,F5.out⟩;have e:bs++(opL 4 nm vl Fst.nil.len++exK .nil)=L5:=by rw [H5.out,H1.out]; simp [opL,exK,dig,Fst.len]
 unfold exL;rw [e];exact O5.out
theorem zWt (B m:Nat) (ho:∀i,K i→i < B) (ks:Fst) (nm vl:ByteArray) (kv:Value) (l:Nat) (v:Value) (bs:List UInt8) (w:World) (hp:yz 5 nm vl ks l=true) (hlen:bs.length+(exL 5 nm vl ks).length≤1000000000)
  (hk:xV K w kv ks) (hB:B≤w.heap.size) (hown:uN w B v bs):Calls Tryz.prog 237 #[v,exV 5 nm vl kv] w (kJ B w (bs++exL 5 nm vl ks)):=by
 obtain ⟨hfit,hall⟩:=yi hp;have hin:=jI hfit;have hn:=hin.len;have HKL:=zz hin.len0;obtain ⟨oa,cap,rfl,-⟩:=id hk;unfold exV;unfold exL at hlen;rw [List.length_append] at hlen;have hl1:bs.length≤1000000000:=by omega
 have f1:=(Fr.same w).alloc (.cells #[.int .i64 5,.string nm,.string vl,.slice oa ks.len cap] 38);have f2:=f1.alloc (.cells #[.int .u8 5] 5);have s1:(w.alloc (.cells #[.int .i64 5,.string nm,.string vl,.slice oa ks.len cap] 38)).heap.size=w.heap.size+1:=by simp
 have O2:=zz ((hown.alloc (.cells #[.int .i64 5,.string nm,.string vl,.slice oa ks.len cap] 38)).alloc (.cells #[.int .u8 5] 5));have X2:=zz ((zF (.cells #[.int .u8 5] 5) (zA (zC w (.cells #[.int .i64 5,.string nm,.string vl,.slice oa ks.len cap] 38)))).trans (zC w (.cells #[.int .i64 5,.string nm,.string vl,.slice oa ks.len cap] 38)));have c2:=zD (w.alloc (.cells #[.int .i64 5,.string nm,.string vl,.slice oa ks.len cap] 38)) #[.int .u8 5] 5 0;rw [s1] at c2;have C2:=zz c2;have F2:=zz (Fr5.of (B:=B) f2);have KW:=zz hk;have B2:=zz (Nat.le_trans hB f2.size);have dx:=zD w #[.int .i64 5,.string nm,.string vl,.slice oa ks.len cap] 38;clear f1 f2 s1 c2 hown hk;go_enter Tryz.func237,Tryz.ntmps237
 go_wp2_with (at_builtin; refine uC rfl (.tmp 7) (.tmp 11) rfl B v bs rfl O2.out (dig 5) (w.heap.size+1) rfl (by exact C2.out) hl1 B2.out ?_)
 intro v1 w1 L1 H1 o1 g1;have O1:=zz o1;have F1:=zz (F2.out.tr g1);have X1:=zz (g1.keep X2.out (by decide));have B1:=zz (Nat.le_trans B2.out g1.size);clear o1 g1 O2 X2 F2 C2 B2 dx;have dx:=zB X1.out;have T5:=zz (yR nm w1 (by have:=hin.nms; omega));have hs5:=zp (show nm.size≤1000000000 by have:=hin.nms; omega);go_wp2_with fail
 refine T5.out.mono ?_;rintro e x5 ⟨rfl,g⟩;have O5a:=zz (O1.out.old g);have F5a:=zz (F1.out.tr (Fr5.of g));have X5a:=zz (blk X1.out g fun h=>h);have B5a:=zz (Nat.le_trans B1.out g.size);have hl5:L1.length+(zI nm).size≤1000000000:=by rw [H1.out]; simp [opL] at hlen; simp; omega
 clear g T5 O1 F1 X1 B1 dx;go_wp2_with (at_builtin; refine zCu rfl (.tmp 28) (.tmp 31) 9 Tryz.underlying9 rfl B v1 L1 rfl O5a.out (zI nm) rfl hl5 B5a.out ?_)
 intro v5 w5 L5 H5 o g;have O5:=zz o;have F5:=zz (F5a.out.tr g);have X5:=zz (g.keep X5a.out (by decide));have B5:=zz (Nat.le_trans B5a.out g.size);clear o g O5a F5a X5a B5a;have dx:=zB X5.out;have T6:=zz (yR vl w5 (by have:=hin.vls; omega));have hs6:=zp (show vl.size≤1000000000 by have:=hin.vls; omega);go_wp2_with fail
 refine T6.out.mono ?_;rintro e x6 ⟨rfl,g⟩;have O6a:=zz (O5.out.old g);have F6a:=zz (F5.out.tr (Fr5.of g));have X6a:=zz (blk X5.out g fun h=>h);have B6a:=zz (Nat.le_trans B5.out g.size);have hl6:L5.length+(zI vl).size≤1000000000:=by rw [H5.out,H1.out]; simp [opL] at hlen; simp; omega
 clear g T6 O5 F5 X5 B5 dx;go_wp2_with (at_builtin; refine zCu rfl (.tmp 39) (.tmp 42) 9 Tryz.underlying9 rfl B v5 L5 rfl O6a.out (zI vl) rfl hl6 B6a.out ?_)
 intro v6 w6 L6 H6 o g;have O6:=zz o;have F6:=zz (F6a.out.tr g);have X6:=zz (g.keep X6a.out (by decide));have B6:=zz (Nat.le_trans B6a.out g.size);clear o g O6a F6a X6a B6a;have dx:=zB X6.out;have hk0:ks=.nil:=zCv (HKL.out (by decide));subst hk0;go_wp2_with fail
 refine wp_loop_rounds 1 ?_;rw [rounds_succ];go_wp2_with fail
 go_ret
 refine ⟨_,rfl,?_,F6.out⟩;have e:bs++(opL 5 nm vl Fst.nil.len++exK .nil)=L6:=by rw [H6.out,H5.out,H1.out]; simp [opL,exK,dig,Fst.len]
 unfold exL;rw [e];exact O6.out
theorem zWu (B m:Nat) (ho:∀i,K i→i < B) (ks:Fst) (nm vl:ByteArray) (kv:Value) (l:Nat) (v:Value) (bs:List UInt8) (w:World) (hp:yz 6 nm vl ks l=true) (hlen:bs.length+(exL 6 nm vl ks).length≤1000000000)
  (hk:xV K w kv ks) (hB:B≤w.heap.size) (hown:uN w B v bs):Calls Tryz.prog 237 #[v,exV 6 nm vl kv] w (kJ B w (bs++exL 6 nm vl ks)):=by
 obtain ⟨hfit,hall⟩:=yi hp;have hin:=jI hfit;have hn:=hin.len;have HKL:=zz hin.len0;obtain ⟨oa,cap,rfl,-⟩:=id hk;unfold exV;unfold exL at hlen;rw [List.length_append] at hlen;have hl1:bs.length≤1000000000:=by omega
 have f1:=(Fr.same w).alloc (.cells #[.int .i64 6,.string nm,.string vl,.slice oa ks.len cap] 38);have f2:=f1.alloc (.cells #[.int .u8 6] 5);have s1:(w.alloc (.cells #[.int .i64 6,.string nm,.string vl,.slice oa ks.len cap] 38)).heap.size=w.heap.size+1:=by simp
 have O2:=zz ((hown.alloc (.cells #[.int .i64 6,.string nm,.string vl,.slice oa ks.len cap] 38)).alloc (.cells #[.int .u8 6] 5));have X2:=zz ((zF (.cells #[.int .u8 6] 5) (zA (zC w (.cells #[.int .i64 6,.string nm,.string vl,.slice oa ks.len cap] 38)))).trans (zC w (.cells #[.int .i64 6,.string nm,.string vl,.slice oa ks.len cap] 38)));have c2:=zD (w.alloc (.cells #[.int .i64 6,.string nm,.string vl,.slice oa ks.len cap] 38)) #[.int .u8 6] 5 0;rw [s1] at c2;have C2:=zz c2;have F2:=zz (Fr5.of (B:=B) f2);have KW:=zz hk;have B2:=zz (Nat.le_trans hB f2.size);have dx:=zD w #[.int .i64 6,.string nm,.string vl,.slice oa ks.len cap] 38;clear f1 f2 s1 c2 hown hk;go_enter Tryz.func237,Tryz.ntmps237
 go_wp2_with (at_builtin; refine uC rfl (.tmp 7) (.tmp 11) rfl B v bs rfl O2.out (dig 6) (w.heap.size+1) rfl (by exact C2.out) hl1 B2.out ?_)
 intro v1 w1 L1 H1 o1 g1;have O1:=zz o1;have F1:=zz (F2.out.tr g1);have X1:=zz (g1.keep X2.out (by decide));have B1:=zz (Nat.le_trans B2.out g1.size);clear o1 g1 O2 X2 F2 C2 B2 dx;have dx:=zB X1.out;have T6:=zz (yR vl w1 (by have:=hin.vls; omega));have hs6:=zp (show vl.size≤1000000000 by have:=hin.vls; omega);go_wp2_with fail
 refine T6.out.mono ?_;rintro e x6 ⟨rfl,g⟩;have O6a:=zz (O1.out.old g);have F6a:=zz (F1.out.tr (Fr5.of g));have X6a:=zz (blk X1.out g fun h=>h);have B6a:=zz (Nat.le_trans B1.out g.size);have hl6:L1.length+(zI vl).size≤1000000000:=by rw [H1.out]; simp [opL] at hlen; simp; omega
 clear g T6 O1 F1 X1 B1 dx;go_wp2_with (at_builtin; refine zCu rfl (.tmp 39) (.tmp 42) 9 Tryz.underlying9 rfl B v1 L1 rfl O6a.out (zI vl) rfl hl6 B6a.out ?_)
 intro v6 w6 L6 H6 o g;have O6:=zz o;have F6:=zz (F6a.out.tr g);have X6:=zz (g.keep X6a.out (by decide));have B6:=zz (Nat.le_trans B6a.out g.size);clear o g O6a F6a X6a B6a;have dx:=zB X6.out;have hk0:ks=.nil:=zCv (HKL.out (by decide));subst hk0;go_wp2_with fail
 refine wp_loop_rounds 1 ?_;rw [rounds_succ];go_wp2_with fail
 go_ret
 refine ⟨_,rfl,?_,F6.out⟩;have e:bs++(opL 6 nm vl Fst.nil.len++exK .nil)=L6:=by rw [H6.out,H1.out]; simp [opL,exK,dig,Fst.len]
 unfold exL;rw [e];exact O6.out
theorem zWv (B m:Nat) (ho:∀i,K i→i < B) (ks:Fst) (nm vl:ByteArray) (kv:Value) (l:Nat) (v:Value) (bs:List UInt8) (w:World) (hp:yz 7 nm vl ks l=true) (hlen:bs.length+(exL 7 nm vl ks).length≤1000000000)
  (hk:xV K w kv ks) (hB:B≤w.heap.size) (hown:uN w B v bs):Calls Tryz.prog 237 #[v,exV 7 nm vl kv] w (kJ B w (bs++exL 7 nm vl ks)):=by
 obtain ⟨hfit,hall⟩:=yi hp;have hin:=jI hfit;have hn:=hin.len;have HKL:=zz hin.len0;obtain ⟨oa,cap,rfl,-⟩:=id hk;unfold exV;unfold exL at hlen;rw [List.length_append] at hlen;have hl1:bs.length≤1000000000:=by omega
 have f1:=(Fr.same w).alloc (.cells #[.int .i64 7,.string nm,.string vl,.slice oa ks.len cap] 38);have f2:=f1.alloc (.cells #[.int .u8 7] 5);have s1:(w.alloc (.cells #[.int .i64 7,.string nm,.string vl,.slice oa ks.len cap] 38)).heap.size=w.heap.size+1:=by simp
 have O2:=zz ((hown.alloc (.cells #[.int .i64 7,.string nm,.string vl,.slice oa ks.len cap] 38)).alloc (.cells #[.int .u8 7] 5));have X2:=zz ((zF (.cells #[.int .u8 7] 5) (zA (zC w (.cells #[.int .i64 7,.string nm,.string vl,.slice oa ks.len cap] 38)))).trans (zC w (.cells #[.int .i64 7,.string nm,.string vl,.slice oa ks.len cap] 38)));have c2:=zD (w.alloc (.cells #[.int .i64 7,.string nm,.string vl,.slice oa ks.len cap] 38)) #[.int .u8 7] 5 0;rw [s1] at c2;have C2:=zz c2;have F2:=zz (Fr5.of (B:=B) f2);have KW:=zz hk;have B2:=zz (Nat.le_trans hB f2.size);have dx:=zD w #[.int .i64 7,.string nm,.string vl,.slice oa ks.len cap] 38;clear f1 f2 s1 c2 hown hk;go_enter Tryz.func237,Tryz.ntmps237
 go_wp2_with (at_builtin; refine uC rfl (.tmp 7) (.tmp 11) rfl B v bs rfl O2.out (dig 7) (w.heap.size+1) rfl (by exact C2.out) hl1 B2.out ?_)
 intro v1 w1 L1 H1 o1 g1;have O1:=zz o1;have F1:=zz (F2.out.tr g1);have X1:=zz (g1.keep X2.out (by decide));have B1:=zz (Nat.le_trans B2.out g1.size);clear o1 g1 O2 X2 F2 C2 B2 dx;have dx:=zB X1.out;have T6:=zz (yR vl w1 (by have:=hin.vls; omega));have hs6:=zp (show vl.size≤1000000000 by have:=hin.vls; omega);go_wp2_with fail
 refine T6.out.mono ?_;rintro e x6 ⟨rfl,g⟩;have O6a:=zz (O1.out.old g);have F6a:=zz (F1.out.tr (Fr5.of g));have X6a:=zz (blk X1.out g fun h=>h);have B6a:=zz (Nat.le_trans B1.out g.size);have hl6:L1.length+(zI vl).size≤1000000000:=by rw [H1.out]; simp [opL] at hlen; simp; omega
 clear g T6 O1 F1 X1 B1 dx;go_wp2_with (at_builtin; refine zCu rfl (.tmp 39) (.tmp 42) 9 Tryz.underlying9 rfl B v1 L1 rfl O6a.out (zI vl) rfl hl6 B6a.out ?_)
 intro v6 w6 L6 H6 o g;have O6:=zz o;have F6:=zz (F6a.out.tr g);have X6:=zz (g.keep X6a.out (by decide));have B6:=zz (Nat.le_trans B6a.out g.size);clear o g O6a F6a X6a B6a;have dx:=zB X6.out;have hk0:ks=.nil:=zCv (HKL.out (by decide));subst hk0;go_wp2_with fail
 refine wp_loop_rounds 1 ?_;rw [rounds_succ];go_wp2_with fail
 go_ret
 refine ⟨_,rfl,?_,F6.out⟩;have e:bs++(opL 7 nm vl Fst.nil.len++exK .nil)=L6:=by rw [H6.out,H1.out]; simp [opL,exK,dig,Fst.len]
 unfold exL;rw [e];exact O6.out
theorem zNz (B:Nat) (ho:∀i,K i→i < B) (m:Nat):WrIH K B m:=by
 induction m with
 | zero=>intro ks op nm vl kv l v bs w h; omega
 | succ m ih=>
  intro ks op nm vl kv l v bs w hm hp hlen hk hB hown;obtain ⟨h1,h2⟩:=(jI (yi hp).1).ops
  have:op=0∨op=1∨op=2∨op=3∨op=4∨op=5∨op=6∨op=7:=by omega
  rcases this with rfl | rfl | rfl | rfl | rfl | rfl | rfl | rfl
  ·exact zWo B 0 ho ks nm vl kv l v bs w hp hlen hk hB hown
  ·exact zWp B m ho ih ks nm vl kv l v bs w hm hp hlen hk hB hown
  ·exact zWq B m ho ih ks nm vl kv l v bs w hm hp hlen hk hB hown
  ·exact zWr B m ho ih ks nm vl kv l v bs w hm hp hlen hk hB hown
  ·exact zWs B 0 ho ks nm vl kv l v bs w hp hlen hk hB hown
  ·exact zWt B 0 ho ks nm vl kv l v bs w hp hlen hk hB hown
  ·exact zWu B 0 ho ks nm vl kv l v bs w hp hlen hk hB hown
  ·exact zWv B 0 ho ks nm vl kv l v bs w hp hlen hk hB hown
end
end Go.Proofs.YtfdhofabgdkkkaaGreatDoor
