/- A part of the proof that what the machine is told keeps its bounds. -/
import Derived.Test.YtfdhofabgdkkkaaGreatDoorJ4
import Derived.WalkMore
import Derived.ScopeJumps
import Derived.Laws.BitsAllLaws
import Derived.Laws.Bits64
import Derived.Test.YtfdhofabgdkkkaaGreatDoorJ6
import Derived.Test.YtfdhofabgdkkkaaGreatDoorJ3
import Derived.Lib.Builder
import Derived.Lib.Strings
import Derived.Lib.AppendStr
import Derived.Laws.Externs
set_option maxHeartbeats 128000000
set_option maxRecDepth 100000
namespace Go.Proofs.YtfdhofabgdkkkaaGreatDoor
open Lib renaming hid→zz
open Go.RowKit Go.Fm Go.BigFrame
set_option linter.unusedVariables false
set_option linter.unusedSimpArgs false
theorem xor_ones (x:Nat) (h:x < 18446744073709551616):x ^^^ 18446744073709551615=18446744073709551615 - x:=by
 have h2:x < 2 ^ 64:=h;have e:(18446744073709551615:Nat) - x=2 ^ 64 - (x+1):=by omega
 have e2:(18446744073709551615:Nat)=2 ^ 64 - 1:=by omega
 rw [e];apply Nat.eq_of_testBit_eq
 intro i;rw [Nat.testBit_xor,Nat.testBit_two_pow_sub_succ h2,e2,Nat.testBit_two_pow_sub_one];by_cases hi:i < 64
 ·simp [hi]
 ·simp [hi]
  exact Nat.testBit_lt_two_pow (Nat.lt_of_lt_of_le h2 (Nat.pow_le_pow_right (by omega) (by omega)))
theorem zz_neg (n:Int) (h0:n < 0) (h1:-9223372036854775808≤n):bits .xor .u64 (IntKind.u64.wrap (IntKind.u64.wrap n * 2)) (IntKind.u64.wrap (n / 9223372036854775808))=(zig n:Int):=by
 obtain ⟨x,hx⟩:∃x:Nat,IntKind.u64.wrap (IntKind.u64.wrap n * 2)=(x:Int)∧x < 18446744073709551616∧(x:Int)=2 * n+18446744073709551616:=by
  refine ⟨(2 * n+18446744073709551616).toNat,?_,by omega,by omega⟩;simp [IntKind.wrap,IntKind.bits,IntKind.signed]; omega
 obtain ⟨hx1,hx2,hx3⟩:=hx;have hy:IntKind.u64.wrap (n / 9223372036854775808)=((18446744073709551615:Nat):Int):=by
  simp [IntKind.wrap,IntKind.bits,IntKind.signed]; omega
 rw [hx1,hy,u64_xor_nat _ _ hx2 (by omega),xor_ones x hx2];unfold zig;rw [if_pos h0];omega
theorem zz_pos (n:Int) (h0:0≤n) (h1:n≤9223372036854775807):bits .xor .u64 (n * 2) (n / 9223372036854775808)=(zig n:Int):=by
 have e1:n * 2=((2 * n.toNat:Nat):Int):=by omega
 have e2:n / 9223372036854775808=((0:Nat):Int):=by omega
 rw [e1,e2,u64_xor_nat _ _ (by omega) (by omega),Nat.xor_zero];unfold zig;rw [if_neg (by omega)]
theorem zSz (m:Nat):bits .or .u8 ((m:Int) % 256) 128=(m:Int) % 128+128:=by
 have e1:(m:Int) % 256=((m % 256:Nat):Int):=by simp
 rw [e1,show (128:Int)=((128:Nat):Int) from rfl,u8_or_nat _ _ (by omega) (by omega)]
 have:m % 256 ||| 128=m % 128+128:=by
  have h:∀x:Nat,x < 256→x ||| 128=x % 128+128:=by decide
  rw [h _ (by omega)];omega
 rw [this];omega
structure vU (n:Int) (w:World) (m:Nat) (ds:List UInt8) (b:Value) (wr:World):Prop where
 hm:m * 128 ^ ds.length < 18446744073709551616
 hp:yo (zig n)=ds++yo m
 o:wr.ownsRow w.heap.size 5 1 b ds.length (ds.map zL)
 f:Fr (fun _=>False) w wr
theorem vU.start (n:Int) (w:World) (hn:(Lit.int .i64 n).wf=true):vU n w (zig n) [] (.slice none 0 0) w:=
 ⟨by have:=kg hn; simpa using this,by simp,World.ownsRow_nil _ _ _ _,Fr.same _⟩
theorem xF (n:Int) (w:World) (hn:(Lit.int .i64 n).wf=true):
  Calls Tryz.prog 185 #[.int .i64 n] w fun e w'=>e=.returned (.string (zM n))∧Fr (fun _=>False) w w':=by
 obtain ⟨i,hi,hz,h1,h2⟩:=info_parts zMm;have hb:=hn;simp [Lit.wf,IntKind.min,IntKind.max,IntKind.signed,IntKind.bits] at hb;obtain ⟨hb1,hb2⟩:=hb;rcases Int.lt_or_le n 0 with h0 | h0
 ·go_enter Tryz.func185,Tryz.ntmps185
  go_wp2_with fail
  refine wp_scope_jumps 0 (fun a' w'=>∃(m:Nat) (ds:List UInt8) (b u5 u6 u7 u8 u9 u10 u11 u12 u13 u14 u15 u16 u17 u18 u19 u20 u21 u22 u23 u24 u25 u26 u27:Value),a'= { tmps:=#[.int .i64 n,undef,.string ⟨#[]⟩,.int .u64 m,b,u5,u6,u7,u8,u9,u10,u11,u12,u13,u14,u15,u16,u17,u18,u19,u20,u21,u22,u23,u24,u25,u26,u27],defers:=[] } ∧vU n w m ds b w') (fun a' _=>(intOf (a'.tmps.getD 3 undef)).toNat) rfl ?_ ?_
  ·go_wp2_with fail
   rw [zz_neg n h0 hb1];have hmid:=vU.start n w hn;obtain ⟨m,hzm⟩:∃m,m=zig n:=⟨_,rfl⟩;obtain ⟨ds,hds⟩:∃ds:List UInt8,ds=[]:=⟨_,rfl⟩;rw [←hzm,←hds] at hmid;rw [←hzm];have hb0:(Value.slice none 0 0)=.slice none ds.length 0:=by rw [hds]; rfl
   rw [hb0] at hmid ⊢;obtain ⟨bo,hbo⟩:∃bo:Option Addr,bo=none:=⟨_,rfl⟩;obtain ⟨bc,hbc⟩:∃bc:Nat,bc=0:=⟨_,rfl⟩;rw [←hbo,←hbc] at hmid ⊢;have HM:=zz hmid.hm;have HP:=zz hmid.hp;have O:=zz hmid.o;have F:=zz hmid.f;clear hmid hzm hds hb0 hbo hbc hb1 hb2 h0;go_step3
   have hd:ds.length≤9∨m=0:=by
    rcases Nat.eq_zero_or_pos m with h | h
    ·exact .inr h
    ·refine .inl ?_
     have hm:=HM.out;have h3:128 ^ ds.length≤m * 128 ^ ds.length:=Nat.le_mul_of_pos_left _ h;have h4:128 ^ ds.length < 128 ^ 10:=by omega
     have:=(Nat.pow_lt_pow_iff_right (show 1 < 128 by omega)).1 h4
     omega
   have hd9:128≤m→ds.length≤8:=fun h=>by
    have hm:=HM.out;have h3:128 * 128 ^ ds.length≤m * 128 ^ ds.length:=Nat.mul_le_mul_right _ h;have h4:128 ^ (ds.length+1) < 128 ^ 10:=by rw [Nat.pow_succ,Nat.mul_comm]; omega
    have:=(Nat.pow_lt_pow_iff_right (show 1 < 128 by omega)).1 h4
    omega
   have hm64:m < 18446744073709551616:=by
    have hm:=HM.out
    have:m * 1≤m * 128 ^ ds.length:=Nat.mul_le_mul_left _ (Nat.pow_pos (by omega))
    omega
   rcases Nat.lt_or_ge m 128 with hlt | hge
   ·have hd10:ds.length≤9:=by
     rcases hd with h | h
     ·exact h
     ·have h3:=ul 9 (zig n) (by have:=kg hn; omega)
      have h4:=congrArg List.length HP.out;rw [h,zq (m:=0) (by omega)] at h4;simp at h4; omega
    have hb:=yK (show m < 256 by omega);have ho5:(w.alloc (.cells #[.int .u8 (m:Int)] 5)).ownsRow w.heap.size 5 1 (.slice bo ds.length bc) ds.length (ds.map zL):=zl O.out fun i hi=>zF _ (zK O.out hi).2
    have hf5:=F.out.alloc (.cells #[.int .u8 (m:Int)] 5);have hc5:=zD w #[.int .u8 (m:Int)] 5 0;have hwr:IntKind.u8.wrap (m:Int)=m:=by simp [IntKind.wrap,IntKind.bits,IntKind.signed]; omega
    have O5:=zz ho5;have F5:=zz hf5;have C5:=zz hc5;have HB:=zz hb;have HLT:=zz (zq hlt);clear hd9 hd ho5 hf5 hc5 hb;go_wp2_with (at_builtin; refine zP _ rfl (.tmp 22) (.tmp 25) 305 rfl w.heap.size 5 i (.int .u8 0) 1 1 Tryz.underlying305 hi hz h1 h2 rfl (by decide) (.slice bo ds.length bc) ds.length (ds.map zL) rfl O5.out ⟨w.heap.size,0,none⟩ 1 1 [zL (dig m)] rfl rfl ?c1 ?c2 ?c3 ?c4 ?c5 ?_)
    case c1=>
     intro j u hj;match j,hj with
     | 0,hj=>simp at hj; subst hj; rw [HB.out,zi]; exact C5.out
     | j+1,hj=>simp at hj
    case c2=>intro u hu; simp at hu; subst hu; rfl
    case c3=>unfold maxLen; omega
    case c4=>omega
    case c5=>exact F5.out.size
    intro v7 w7 ho7 hg7 hb7;have hf7:Fr (fun _=>False) w w7:=F5.out.grown hg7 fun k hk=>.inr (zK O5.out hk).1
    have hl7:ds.map zL++ [zL (dig m)]=(ds++ [dig m]).map zL:=by simp
    rw [hl7] at ho7;obtain ⟨og,cg,rfl,hat⟩:=xz ho7;obtain ⟨gg,rfl,-,-,hcell⟩:=hat (by omega);have hconv:=run_convert_bytes_back (P:=Tryz.prog) w7 305 9 5 ⟨gg,0,none⟩ cg (ds++ [dig m]) Tryz.underlying305 Tryz.underlying5 Tryz.underlying9 (fun j hj=>by
     rw [zi];refine hcell j _ ?_;rw [List.getElem?_map,List.getElem?_eq_getElem hj]; rfl)
    rw [List.length_append,List.length_cons,List.length_nil] at hconv;have hS:zM n=⟨(ds++ [dig m]).toArray⟩:=by unfold zM; rw [HP.out,HLT.out]
    have HS:=zz hS;have F7:=zz hf7;clear ho7 hg7 hb7 hf7 hl7 hat hcell hS hwr;go_wp2_with fail
    simp only [Exit.jump];go_ret
    exact ⟨by rw [HS.out]; rfl,F7.out⟩
   ·have hd8:=hd9 hge
    have hb:zL (dig (m % 128+128))=.int .u8 ((m:Int) % 128+128):=by
     rw [yK (by omega)]; congr 1
    have ho5:(w.alloc (.cells #[.int .u8 ((m:Int) % 128+128)] 5)).ownsRow w.heap.size 5 1 (.slice bo ds.length bc) ds.length (ds.map zL):=zl O.out fun i hi=>zF _ (zK O.out hi).2
    have hf5:=F.out.alloc (.cells #[.int .u8 ((m:Int) % 128+128)] 5);have hc5:=zD w #[.int .u8 ((m:Int) % 128+128)] 5 0;have hor:=zSz m;have O5:=zz ho5;have F5:=zz hf5;have C5:=zz hc5;have HB:=zz hb;have HBIG:=zz (yu hge);clear hd9 hd ho5 hf5 hc5 hb;go_wp2_with (at_builtin; refine zP _ rfl (.tmp 14) (.tmp 18) 305 rfl w.heap.size 5 i (.int .u8 0) 1 1 Tryz.underlying305 hi hz h1 h2 rfl (by decide) (.slice bo ds.length bc) ds.length (ds.map zL) rfl O5.out ⟨w.heap.size,0,none⟩ 1 1 [zL (dig (m % 128+128))] rfl rfl ?c1 ?c2 ?c3 ?c4 ?c5 ?_)
    case c1=>
     intro j u hj;match j,hj with
     | 0,hj=>simp at hj; subst hj; rw [HB.out,zi]; exact C5.out
     | j+1,hj=>simp at hj
    case c2=>intro u hu; simp at hu; subst hu; rfl
    case c3=>unfold maxLen; omega
    case c4=>omega
    case c5=>exact F5.out.size
    intro v7 w7 ho7 hg7 hb7;have hf7:Fr (fun _=>False) w w7:=F5.out.grown hg7 fun k hk=>.inr (zK O5.out hk).1
    have hl7:ds.map zL++ [zL (dig (m % 128+128))]=(ds++ [dig (m % 128+128)]).map zL:=by simp
    have hl8:ds.length+1=(ds++ [dig (m % 128+128)]).length:=by simp
    rw [hl7,hl8] at ho7;have O7:=zz ho7;have F7:=zz hf7;clear ho7 hg7 hb7 hf7 hl7 hl8 hor;go_wp2_with fail
    go_step3
    have hnext:vU n w (m / 128) (ds++ [dig (m % 128+128)]) v7 w7:=by
     refine ⟨?_,by rw [HP.out,HBIG.out]; simp,O7.out,F7.out⟩;have h9:=HM.out;have h8:m / 128 * 128≤m:=Nat.div_mul_le_self _ _;have h7:m / 128 * 128 * 128 ^ ds.length≤m * 128 ^ ds.length:=Nat.mul_le_mul_right _ h8;rw [List.length_append,List.length_cons,List.length_nil,Nat.zero_add,Nat.pow_succ,Nat.mul_comm (128 ^ ds.length) 128,←Nat.mul_assoc];omega
    exact ⟨rfl,m / 128,_,_,_,_,_,_,_,_,_,_,_,_,_,_,_,_,_,_,_,_,_,_,_,_,_,rfl,hnext⟩
  ·rintro a' wr ⟨m,ds,b,u5,u6,u7,u8,u9,u10,u11,u12,u13,u14,u15,u16,u17,u18,u19,u20,u21,u22,u23,u24,u25,u26,u27,rfl,hmid⟩
   obtain ⟨bo,bc,rfl,-⟩:=ze hmid.o;have HM:=zz hmid.hm;have HP:=zz hmid.hp;have O:=zz hmid.o;have F:=zz hmid.f;clear hmid hb1 hb2 h0;have hd:ds.length≤9∨m=0:=by
    rcases Nat.eq_zero_or_pos m with h | h
    ·exact .inr h
    ·refine .inl ?_
     have hm:=HM.out;have h3:128 ^ ds.length≤m * 128 ^ ds.length:=Nat.le_mul_of_pos_left _ h;have h4:128 ^ ds.length < 128 ^ 10:=by omega
     have:=(Nat.pow_lt_pow_iff_right (show 1 < 128 by omega)).1 h4
     omega
   have hd9:128≤m→ds.length≤8:=fun h=>by
    have hm:=HM.out;have h3:128 * 128 ^ ds.length≤m * 128 ^ ds.length:=Nat.mul_le_mul_right _ h;have h4:128 ^ (ds.length+1) < 128 ^ 10:=by rw [Nat.pow_succ,Nat.mul_comm]; omega
    have:=(Nat.pow_lt_pow_iff_right (show 1 < 128 by omega)).1 h4
    omega
   have hm64:m < 18446744073709551616:=by
    have hm:=HM.out
    have:m * 1≤m * 128 ^ ds.length:=Nat.mul_le_mul_left _ (Nat.pow_pos (by omega))
    omega
   rcases Nat.lt_or_ge m 128 with hlt | hge
   ·have hd10:ds.length≤9:=by
     rcases hd with h | h
     ·exact h
     ·have h3:=ul 9 (zig n) (by have:=kg hn; omega)
      have h4:=congrArg List.length HP.out;rw [h,zq (m:=0) (by omega)] at h4;simp at h4; omega
    have hb:=yK (show m < 256 by omega);have ho5:(wr.alloc (.cells #[.int .u8 (m:Int)] 5)).ownsRow w.heap.size 5 1 (.slice bo ds.length bc) ds.length (ds.map zL):=zl O.out fun i hi=>zF _ (zK O.out hi).2
    have hf5:=F.out.alloc (.cells #[.int .u8 (m:Int)] 5);have hc5:=zD wr #[.int .u8 (m:Int)] 5 0;have hwr:IntKind.u8.wrap (m:Int)=m:=by simp [IntKind.wrap,IntKind.bits,IntKind.signed]; omega
    have O5:=zz ho5;have F5:=zz hf5;have C5:=zz hc5;have HB:=zz hb;have HLT:=zz (zq hlt);clear hd9 hd ho5 hf5 hc5 hb;go_wp2_with (at_builtin; refine zP _ rfl (.tmp 22) (.tmp 25) 305 rfl w.heap.size 5 i (.int .u8 0) 1 1 Tryz.underlying305 hi hz h1 h2 rfl (by decide) (.slice bo ds.length bc) ds.length (ds.map zL) rfl O5.out ⟨wr.heap.size,0,none⟩ 1 1 [zL (dig m)] rfl rfl ?c1 ?c2 ?c3 ?c4 ?c5 ?_)
    case c1=>
     intro j u hj;match j,hj with
     | 0,hj=>simp at hj; subst hj; rw [HB.out,zi]; exact C5.out
     | j+1,hj=>simp at hj
    case c2=>intro u hu; simp at hu; subst hu; rfl
    case c3=>unfold maxLen; omega
    case c4=>omega
    case c5=>exact F5.out.size
    intro v7 w7 ho7 hg7 hb7;have hf7:Fr (fun _=>False) w w7:=F5.out.grown hg7 fun k hk=>.inr (zK O5.out hk).1
    have hl7:ds.map zL++ [zL (dig m)]=(ds++ [dig m]).map zL:=by simp
    rw [hl7] at ho7;obtain ⟨og,cg,rfl,hat⟩:=xz ho7;obtain ⟨gg,rfl,-,-,hcell⟩:=hat (by omega);have hconv:=run_convert_bytes_back (P:=Tryz.prog) w7 305 9 5 ⟨gg,0,none⟩ cg (ds++ [dig m]) Tryz.underlying305 Tryz.underlying5 Tryz.underlying9 (fun j hj=>by
     rw [zi];refine hcell j _ ?_;rw [List.getElem?_map,List.getElem?_eq_getElem hj]; rfl)
    rw [List.length_append,List.length_cons,List.length_nil] at hconv;have hS:zM n=⟨(ds++ [dig m]).toArray⟩:=by unfold zM; rw [HP.out,HLT.out]
    have HS:=zz hS;have F7:=zz hf7;clear ho7 hg7 hb7 hf7 hl7 hat hcell hS hwr;go_wp2_with fail
    simp only [Exit.jump];go_ret
    exact ⟨by rw [HS.out]; rfl,F7.out⟩
   ·have hd8:=hd9 hge
    have hb:zL (dig (m % 128+128))=.int .u8 ((m:Int) % 128+128):=by
     rw [yK (by omega)]; congr 1
    have ho5:(wr.alloc (.cells #[.int .u8 ((m:Int) % 128+128)] 5)).ownsRow w.heap.size 5 1 (.slice bo ds.length bc) ds.length (ds.map zL):=zl O.out fun i hi=>zF _ (zK O.out hi).2
    have hf5:=F.out.alloc (.cells #[.int .u8 ((m:Int) % 128+128)] 5);have hc5:=zD wr #[.int .u8 ((m:Int) % 128+128)] 5 0;have hor:=zSz m;have O5:=zz ho5;have F5:=zz hf5;have C5:=zz hc5;have HB:=zz hb;have HBIG:=zz (yu hge);clear hd9 hd ho5 hf5 hc5 hb;go_wp2_with (at_builtin; refine zP _ rfl (.tmp 14) (.tmp 18) 305 rfl w.heap.size 5 i (.int .u8 0) 1 1 Tryz.underlying305 hi hz h1 h2 rfl (by decide) (.slice bo ds.length bc) ds.length (ds.map zL) rfl O5.out ⟨wr.heap.size,0,none⟩ 1 1 [zL (dig (m % 128+128))] rfl rfl ?c1 ?c2 ?c3 ?c4 ?c5 ?_)
    case c1=>
     intro j u hj;match j,hj with
     | 0,hj=>simp at hj; subst hj; rw [HB.out,zi]; exact C5.out
     | j+1,hj=>simp at hj
    case c2=>intro u hu; simp at hu; subst hu; rfl
    case c3=>unfold maxLen; omega
    case c4=>omega
    case c5=>exact F5.out.size
    intro v7 w7 ho7 hg7 hb7;have hf7:Fr (fun _=>False) w w7:=F5.out.grown hg7 fun k hk=>.inr (zK O5.out hk).1
    have hl7:ds.map zL++ [zL (dig (m % 128+128))]=(ds++ [dig (m % 128+128)]).map zL:=by simp
    have hl8:ds.length+1=(ds++ [dig (m % 128+128)]).length:=by simp
    rw [hl7,hl8] at ho7;have O7:=zz ho7;have F7:=zz hf7;clear ho7 hg7 hb7 hf7 hl7 hl8 hor;go_wp2_with fail
    go_step3
    have hnext:vU n w (m / 128) (ds++ [dig (m % 128+128)]) v7 w7:=by
     refine ⟨?_,by rw [HP.out,HBIG.out]; simp,O7.out,F7.out⟩;have h9:=HM.out;have h8:m / 128 * 128≤m:=Nat.div_mul_le_self _ _;have h7:m / 128 * 128 * 128 ^ ds.length≤m * 128 ^ ds.length:=Nat.mul_le_mul_right _ h8;rw [List.length_append,List.length_cons,List.length_nil,Nat.zero_add,Nat.pow_succ,Nat.mul_comm (128 ^ ds.length) 128,←Nat.mul_assoc];omega
    exact ⟨rfl,⟨m / 128,_,_,_,_,_,_,_,_,_,_,_,_,_,_,_,_,_,_,_,_,_,_,_,_,_,rfl,hnext⟩,by simp [intOf]; omega⟩
 ·go_enter Tryz.func185,Tryz.ntmps185
  go_wp2_with fail
  refine wp_scope_jumps 0 (fun a' w'=>∃(m:Nat) (ds:List UInt8) (b u5 u6 u7 u8 u9 u10 u11 u12 u13 u14 u15 u16 u17 u18 u19 u20 u21 u22 u23 u24 u25 u26 u27:Value),a'= { tmps:=#[.int .i64 n,undef,.string ⟨#[]⟩,.int .u64 m,b,u5,u6,u7,u8,u9,u10,u11,u12,u13,u14,u15,u16,u17,u18,u19,u20,u21,u22,u23,u24,u25,u26,u27],defers:=[] } ∧vU n w m ds b w') (fun a' _=>(intOf (a'.tmps.getD 3 undef)).toNat) rfl ?_ ?_
  ·go_wp2_with fail
   rw [zz_pos n h0 hb2];have hmid:=vU.start n w hn;obtain ⟨m,hzm⟩:∃m,m=zig n:=⟨_,rfl⟩;obtain ⟨ds,hds⟩:∃ds:List UInt8,ds=[]:=⟨_,rfl⟩;rw [←hzm,←hds] at hmid;rw [←hzm];have hb0:(Value.slice none 0 0)=.slice none ds.length 0:=by rw [hds]; rfl
   rw [hb0] at hmid ⊢;obtain ⟨bo,hbo⟩:∃bo:Option Addr,bo=none:=⟨_,rfl⟩;obtain ⟨bc,hbc⟩:∃bc:Nat,bc=0:=⟨_,rfl⟩;rw [←hbo,←hbc] at hmid ⊢;have HM:=zz hmid.hm;have HP:=zz hmid.hp;have O:=zz hmid.o;have F:=zz hmid.f;clear hmid hzm hds hb0 hbo hbc hb1 hb2 h0;go_step3
   have hd:ds.length≤9∨m=0:=by
    rcases Nat.eq_zero_or_pos m with h | h
    ·exact .inr h
    ·refine .inl ?_
     have hm:=HM.out;have h3:128 ^ ds.length≤m * 128 ^ ds.length:=Nat.le_mul_of_pos_left _ h;have h4:128 ^ ds.length < 128 ^ 10:=by omega
     have:=(Nat.pow_lt_pow_iff_right (show 1 < 128 by omega)).1 h4
     omega
   have hd9:128≤m→ds.length≤8:=fun h=>by
    have hm:=HM.out;have h3:128 * 128 ^ ds.length≤m * 128 ^ ds.length:=Nat.mul_le_mul_right _ h;have h4:128 ^ (ds.length+1) < 128 ^ 10:=by rw [Nat.pow_succ,Nat.mul_comm]; omega
    have:=(Nat.pow_lt_pow_iff_right (show 1 < 128 by omega)).1 h4
    omega
   have hm64:m < 18446744073709551616:=by
    have hm:=HM.out
    have:m * 1≤m * 128 ^ ds.length:=Nat.mul_le_mul_left _ (Nat.pow_pos (by omega))
    omega
   rcases Nat.lt_or_ge m 128 with hlt | hge
   ·have hd10:ds.length≤9:=by
     rcases hd with h | h
     ·exact h
     ·have h3:=ul 9 (zig n) (by have:=kg hn; omega)
      have h4:=congrArg List.length HP.out;rw [h,zq (m:=0) (by omega)] at h4;simp at h4; omega
    have hb:=yK (show m < 256 by omega);have ho5:(w.alloc (.cells #[.int .u8 (m:Int)] 5)).ownsRow w.heap.size 5 1 (.slice bo ds.length bc) ds.length (ds.map zL):=zl O.out fun i hi=>zF _ (zK O.out hi).2
    have hf5:=F.out.alloc (.cells #[.int .u8 (m:Int)] 5);have hc5:=zD w #[.int .u8 (m:Int)] 5 0;have hwr:IntKind.u8.wrap (m:Int)=m:=by simp [IntKind.wrap,IntKind.bits,IntKind.signed]; omega
    have O5:=zz ho5;have F5:=zz hf5;have C5:=zz hc5;have HB:=zz hb;have HLT:=zz (zq hlt);clear hd9 hd ho5 hf5 hc5 hb;go_wp2_with (at_builtin; refine zP _ rfl (.tmp 22) (.tmp 25) 305 rfl w.heap.size 5 i (.int .u8 0) 1 1 Tryz.underlying305 hi hz h1 h2 rfl (by decide) (.slice bo ds.length bc) ds.length (ds.map zL) rfl O5.out ⟨w.heap.size,0,none⟩ 1 1 [zL (dig m)] rfl rfl ?c1 ?c2 ?c3 ?c4 ?c5 ?_)
    case c1=>
     intro j u hj;match j,hj with
     | 0,hj=>simp at hj; subst hj; rw [HB.out,zi]; exact C5.out
     | j+1,hj=>simp at hj
    case c2=>intro u hu; simp at hu; subst hu; rfl
    case c3=>unfold maxLen; omega
    case c4=>omega
    case c5=>exact F5.out.size
    intro v7 w7 ho7 hg7 hb7;have hf7:Fr (fun _=>False) w w7:=F5.out.grown hg7 fun k hk=>.inr (zK O5.out hk).1
    have hl7:ds.map zL++ [zL (dig m)]=(ds++ [dig m]).map zL:=by simp
    rw [hl7] at ho7;obtain ⟨og,cg,rfl,hat⟩:=xz ho7;obtain ⟨gg,rfl,-,-,hcell⟩:=hat (by omega);have hconv:=run_convert_bytes_back (P:=Tryz.prog) w7 305 9 5 ⟨gg,0,none⟩ cg (ds++ [dig m]) Tryz.underlying305 Tryz.underlying5 Tryz.underlying9 (fun j hj=>by
     rw [zi];refine hcell j _ ?_;rw [List.getElem?_map,List.getElem?_eq_getElem hj]; rfl)
    rw [List.length_append,List.length_cons,List.length_nil] at hconv;have hS:zM n=⟨(ds++ [dig m]).toArray⟩:=by unfold zM; rw [HP.out,HLT.out]
    have HS:=zz hS;have F7:=zz hf7;clear ho7 hg7 hb7 hf7 hl7 hat hcell hS hwr;go_wp2_with fail
    simp only [Exit.jump];go_ret
    exact ⟨by rw [HS.out]; rfl,F7.out⟩
   ·have hd8:=hd9 hge
    have hb:zL (dig (m % 128+128))=.int .u8 ((m:Int) % 128+128):=by
     rw [yK (by omega)]; congr 1
    have ho5:(w.alloc (.cells #[.int .u8 ((m:Int) % 128+128)] 5)).ownsRow w.heap.size 5 1 (.slice bo ds.length bc) ds.length (ds.map zL):=zl O.out fun i hi=>zF _ (zK O.out hi).2
    have hf5:=F.out.alloc (.cells #[.int .u8 ((m:Int) % 128+128)] 5);have hc5:=zD w #[.int .u8 ((m:Int) % 128+128)] 5 0;have hor:=zSz m;have O5:=zz ho5;have F5:=zz hf5;have C5:=zz hc5;have HB:=zz hb;have HBIG:=zz (yu hge);clear hd9 hd ho5 hf5 hc5 hb;go_wp2_with (at_builtin; refine zP _ rfl (.tmp 14) (.tmp 18) 305 rfl w.heap.size 5 i (.int .u8 0) 1 1 Tryz.underlying305 hi hz h1 h2 rfl (by decide) (.slice bo ds.length bc) ds.length (ds.map zL) rfl O5.out ⟨w.heap.size,0,none⟩ 1 1 [zL (dig (m % 128+128))] rfl rfl ?c1 ?c2 ?c3 ?c4 ?c5 ?_)
    case c1=>
     intro j u hj;match j,hj with
     | 0,hj=>simp at hj; subst hj; rw [HB.out,zi]; exact C5.out
     | j+1,hj=>simp at hj
    case c2=>intro u hu; simp at hu; subst hu; rfl
    case c3=>unfold maxLen; omega
    case c4=>omega
    case c5=>exact F5.out.size
    intro v7 w7 ho7 hg7 hb7;have hf7:Fr (fun _=>False) w w7:=F5.out.grown hg7 fun k hk=>.inr (zK O5.out hk).1
    have hl7:ds.map zL++ [zL (dig (m % 128+128))]=(ds++ [dig (m % 128+128)]).map zL:=by simp
    have hl8:ds.length+1=(ds++ [dig (m % 128+128)]).length:=by simp
    rw [hl7,hl8] at ho7;have O7:=zz ho7;have F7:=zz hf7;clear ho7 hg7 hb7 hf7 hl7 hl8 hor;go_wp2_with fail
    go_step3
    have hnext:vU n w (m / 128) (ds++ [dig (m % 128+128)]) v7 w7:=by
     refine ⟨?_,by rw [HP.out,HBIG.out]; simp,O7.out,F7.out⟩;have h9:=HM.out;have h8:m / 128 * 128≤m:=Nat.div_mul_le_self _ _;have h7:m / 128 * 128 * 128 ^ ds.length≤m * 128 ^ ds.length:=Nat.mul_le_mul_right _ h8;rw [List.length_append,List.length_cons,List.length_nil,Nat.zero_add,Nat.pow_succ,Nat.mul_comm (128 ^ ds.length) 128,←Nat.mul_assoc];omega
    exact ⟨rfl,m / 128,_,_,_,_,_,_,_,_,_,_,_,_,_,_,_,_,_,_,_,_,_,_,_,_,_,rfl,hnext⟩
  ·rintro a' wr ⟨m,ds,b,u5,u6,u7,u8,u9,u10,u11,u12,u13,u14,u15,u16,u17,u18,u19,u20,u21,u22,u23,u24,u25,u26,u27,rfl,hmid⟩
   obtain ⟨bo,bc,rfl,-⟩:=ze hmid.o;have HM:=zz hmid.hm;have HP:=zz hmid.hp;have O:=zz hmid.o;have F:=zz hmid.f;clear hmid hb1 hb2 h0;have hd:ds.length≤9∨m=0:=by
    rcases Nat.eq_zero_or_pos m with h | h
    ·exact .inr h
    ·refine .inl ?_
     have hm:=HM.out;have h3:128 ^ ds.length≤m * 128 ^ ds.length:=Nat.le_mul_of_pos_left _ h;have h4:128 ^ ds.length < 128 ^ 10:=by omega
     have:=(Nat.pow_lt_pow_iff_right (show 1 < 128 by omega)).1 h4
     omega
   have hd9:128≤m→ds.length≤8:=fun h=>by
    have hm:=HM.out;have h3:128 * 128 ^ ds.length≤m * 128 ^ ds.length:=Nat.mul_le_mul_right _ h;have h4:128 ^ (ds.length+1) < 128 ^ 10:=by rw [Nat.pow_succ,Nat.mul_comm]; omega
    have:=(Nat.pow_lt_pow_iff_right (show 1 < 128 by omega)).1 h4
    omega
   have hm64:m < 18446744073709551616:=by
    have hm:=HM.out
    have:m * 1≤m * 128 ^ ds.length:=Nat.mul_le_mul_left _ (Nat.pow_pos (by omega))
    omega
   rcases Nat.lt_or_ge m 128 with hlt | hge
   ·have hd10:ds.length≤9:=by
     rcases hd with h | h
     ·exact h
     ·have h3:=ul 9 (zig n) (by have:=kg hn; omega)
      have h4:=congrArg List.length HP.out;rw [h,zq (m:=0) (by omega)] at h4;simp at h4; omega
    have hb:=yK (show m < 256 by omega);have ho5:(wr.alloc (.cells #[.int .u8 (m:Int)] 5)).ownsRow w.heap.size 5 1 (.slice bo ds.length bc) ds.length (ds.map zL):=zl O.out fun i hi=>zF _ (zK O.out hi).2
    have hf5:=F.out.alloc (.cells #[.int .u8 (m:Int)] 5);have hc5:=zD wr #[.int .u8 (m:Int)] 5 0;have hwr:IntKind.u8.wrap (m:Int)=m:=by simp [IntKind.wrap,IntKind.bits,IntKind.signed]; omega
    have O5:=zz ho5;have F5:=zz hf5;have C5:=zz hc5;have HB:=zz hb;have HLT:=zz (zq hlt);clear hd9 hd ho5 hf5 hc5 hb;go_wp2_with (at_builtin; refine zP _ rfl (.tmp 22) (.tmp 25) 305 rfl w.heap.size 5 i (.int .u8 0) 1 1 Tryz.underlying305 hi hz h1 h2 rfl (by decide) (.slice bo ds.length bc) ds.length (ds.map zL) rfl O5.out ⟨wr.heap.size,0,none⟩ 1 1 [zL (dig m)] rfl rfl ?c1 ?c2 ?c3 ?c4 ?c5 ?_)
    case c1=>
     intro j u hj;match j,hj with
     | 0,hj=>simp at hj; subst hj; rw [HB.out,zi]; exact C5.out
     | j+1,hj=>simp at hj
    case c2=>intro u hu; simp at hu; subst hu; rfl
    case c3=>unfold maxLen; omega
    case c4=>omega
    case c5=>exact F5.out.size
    intro v7 w7 ho7 hg7 hb7;have hf7:Fr (fun _=>False) w w7:=F5.out.grown hg7 fun k hk=>.inr (zK O5.out hk).1
    have hl7:ds.map zL++ [zL (dig m)]=(ds++ [dig m]).map zL:=by simp
    rw [hl7] at ho7;obtain ⟨og,cg,rfl,hat⟩:=xz ho7;obtain ⟨gg,rfl,-,-,hcell⟩:=hat (by omega);have hconv:=run_convert_bytes_back (P:=Tryz.prog) w7 305 9 5 ⟨gg,0,none⟩ cg (ds++ [dig m]) Tryz.underlying305 Tryz.underlying5 Tryz.underlying9 (fun j hj=>by
     rw [zi];refine hcell j _ ?_;rw [List.getElem?_map,List.getElem?_eq_getElem hj]; rfl)
    rw [List.length_append,List.length_cons,List.length_nil] at hconv;have hS:zM n=⟨(ds++ [dig m]).toArray⟩:=by unfold zM; rw [HP.out,HLT.out]
    have HS:=zz hS;have F7:=zz hf7;clear ho7 hg7 hb7 hf7 hl7 hat hcell hS hwr;go_wp2_with fail
    simp only [Exit.jump];go_ret
    exact ⟨by rw [HS.out]; rfl,F7.out⟩
   ·have hd8:=hd9 hge
    have hb:zL (dig (m % 128+128))=.int .u8 ((m:Int) % 128+128):=by
     rw [yK (by omega)]; congr 1
    have ho5:(wr.alloc (.cells #[.int .u8 ((m:Int) % 128+128)] 5)).ownsRow w.heap.size 5 1 (.slice bo ds.length bc) ds.length (ds.map zL):=zl O.out fun i hi=>zF _ (zK O.out hi).2
    have hf5:=F.out.alloc (.cells #[.int .u8 ((m:Int) % 128+128)] 5);have hc5:=zD wr #[.int .u8 ((m:Int) % 128+128)] 5 0;have hor:=zSz m;have O5:=zz ho5;have F5:=zz hf5;have C5:=zz hc5;have HB:=zz hb;have HBIG:=zz (yu hge);clear hd9 hd ho5 hf5 hc5 hb;go_wp2_with (at_builtin; refine zP _ rfl (.tmp 14) (.tmp 18) 305 rfl w.heap.size 5 i (.int .u8 0) 1 1 Tryz.underlying305 hi hz h1 h2 rfl (by decide) (.slice bo ds.length bc) ds.length (ds.map zL) rfl O5.out ⟨wr.heap.size,0,none⟩ 1 1 [zL (dig (m % 128+128))] rfl rfl ?c1 ?c2 ?c3 ?c4 ?c5 ?_)
    case c1=>
     intro j u hj;match j,hj with
     | 0,hj=>simp at hj; subst hj; rw [HB.out,zi]; exact C5.out
     | j+1,hj=>simp at hj
    case c2=>intro u hu; simp at hu; subst hu; rfl
    case c3=>unfold maxLen; omega
    case c4=>omega
    case c5=>exact F5.out.size
    intro v7 w7 ho7 hg7 hb7;have hf7:Fr (fun _=>False) w w7:=F5.out.grown hg7 fun k hk=>.inr (zK O5.out hk).1
    have hl7:ds.map zL++ [zL (dig (m % 128+128))]=(ds++ [dig (m % 128+128)]).map zL:=by simp
    have hl8:ds.length+1=(ds++ [dig (m % 128+128)]).length:=by simp
    rw [hl7,hl8] at ho7;have O7:=zz ho7;have F7:=zz hf7;clear ho7 hg7 hb7 hf7 hl7 hl8 hor;go_wp2_with fail
    go_step3
    have hnext:vU n w (m / 128) (ds++ [dig (m % 128+128)]) v7 w7:=by
     refine ⟨?_,by rw [HP.out,HBIG.out]; simp,O7.out,F7.out⟩;have h9:=HM.out;have h8:m / 128 * 128≤m:=Nat.div_mul_le_self _ _;have h7:m / 128 * 128 * 128 ^ ds.length≤m * 128 ^ ds.length:=Nat.mul_le_mul_right _ h8;rw [List.length_append,List.length_cons,List.length_nil,Nat.zero_add,Nat.pow_succ,Nat.mul_comm (128 ^ ds.length) 128,←Nat.mul_assoc];omega
    exact ⟨rfl,⟨m / 128,_,_,_,_,_,_,_,_,_,_,_,_,_,_,_,_,_,_,_,_,_,_,_,_,_,rfl,hnext⟩,by simp [intOf]; omega⟩
theorem yR (s:ByteArray) (w:World) (hs:s.size≤1000000000):
  Calls Tryz.prog 186 #[.string s] w fun e w'=>e=.returned (.string (zI s))∧Fr (fun _=>False) w w':=by
 have hp:=zb (vT hs);go_enter Tryz.func186,Tryz.ntmps186
 go_wp2_with fail
 refine (xF _ _ (vT hs)).mono ?_;rintro e w2 ⟨rfl,hf⟩;go_wp2_with fail
 go_ret
 exact ⟨rfl,hf⟩
theorem zd {w:World} {b:Nat} {c:Array Value} {e:TypeId} (h:w.heap[b]?=some (.cells c e (0,0))) (j:Nat):w.frozen? ⟨b,j,none⟩=false:=by
 unfold World.frozen?;rw [h];simp
theorem zB {w:World} {b:Nat} {c:Array Value} {e:TypeId} (h:w.heap[b]?=some (.cells c e (0,0))) (j:Nat):w.cell? ⟨b,j,none⟩=c[j]?:=by
 unfold World.cell?;rw [h];rfl
def zTa (h:Hdr):Prop:=1≤h.key.size∧h.key.size≤1000∧h.val.size≤1000
structure jp (r:Rec):Prop where
 at0:0≤r.at'
 at1:r.at'≤49
 tm0:0≤r.tm
 tm1:r.tm≤1099511627776
 key:r.key.size≤1000
 val:r.val.size≤1000
 hs:r.hs.length≤10
 bare:r.bare=true→r.key=ByteArray.empty
 gone:r.gone=true→r.val=ByteArray.empty
 both:¬(r.bare=true∧r.gone=true)
 hdrs:∀h∈r.hs,zTa h
def kA (w:World) (r:Rec) (e:Ending) (w':World):Prop:=∃c:Int,e=.returned (.int .i64 c)∧((c=0∧jp r)∨(c=1∧¬jp r))∧Fr (fun _=>False) w w'
theorem yv {s:ByteArray} :s=ByteArray.empty↔s.toList=[]:=(toList_nil_iff_emptyBytes s).symm
def js (r:Rec) (hv:Value):Obj:=.cells #[.int .i64 r.at',.int .i64 r.tm,.bool r.bare,.string r.key,.bool r.gone,.string r.val,hv] 95 (0,0)
theorem zEo (K:Nat→Prop) (r:Rec) (hv:Value) (w:World) (h:xi K w hv r.hs):Calls Tryz.prog 93 #[xy r hv] w (kA w r):=by
 obtain ⟨oa,cap,rfl,h⟩:=h;have H:=zz h;have hobj:=zC w (js r (.slice oa r.hs.length cap));have hfa:=(Fr.same w).alloc (js r (.slice oa r.hs.length cap));have bad:¬jp r→∀w',Fr (fun _=>False) w w'→kA w r (.returned (.int .i64 1)) w':=fun hn w' hf=>⟨1,rfl,.inr ⟨rfl,hn⟩,hf⟩
 have OB:=zz hobj;have FA:=zz hfa;clear h hobj hfa;by_cases hn:(0≤r.at'∧r.at'≤49)∧(0≤r.tm∧r.tm≤1099511627776)
 ·by_cases hl:r.key.size≤1000∧r.val.size≤1000∧r.hs.length≤10
  ·by_cases hfl:(r.bare=true→r.key=ByteArray.empty)∧(r.gone=true→r.val=ByteArray.empty)∧¬(r.bare=true∧r.gone=true)
   ·obtain ⟨⟨h1,h2⟩,h3,h4⟩:=hn
    obtain ⟨h5,h6,h7⟩:=hl;obtain ⟨k1,k2,k3⟩:=hfl;have ok:(∀h∈r.hs,zTa h)→∀w',Fr (fun _=>False) w w'→kA w r (.returned (.int .i64 0)) w':=fun hh w' hf=>⟨0,rfl,.inl ⟨rfl,⟨h1,h2,h3,h4,h5,h6,h7,k1,k2,k3,hh⟩⟩,hf⟩
    have bad2:(∃h∈r.hs,¬zTa h)→∀w',Fr (fun _=>False) w w'→kA w r (.returned (.int .i64 1)) w':=fun ⟨h,hm,hn⟩=>bad fun hr=>hn (hr.hdrs h hm)
    have OK:=zz ok;have BAD:=zz bad2;have ek:r.bare=true→r.key.toList=[]∧r.key.toList.isEmpty=true:=fun h=>by have:=yv.1 (k1 h); exact ⟨this,by rw [this]; rfl⟩
    have ev:r.gone=true→r.val.toList=[]∧r.val.toList.isEmpty=true:=fun h=>by have:=yv.1 (k2 h); exact ⟨this,by rw [this]; rfl⟩
    have K3:=zz k3;clear ok bad2 bad k1 k2 k3;have c6:=(zB OB.out 6).trans rfl;obtain ⟨rat,rtm,rbare,rkey,rgone,rval,rhs⟩:=r;unfold xy;dsimp only at *;have hsh:rbare=false∧rgone=false∨rbare=true∧rgone=false∧rkey.toList=[]∧rkey.toList.isEmpty=true∨rbare=false∧rgone=true∧rval.toList=[]∧rval.toList.isEmpty=true:=by
     cases rbare <;> cases rgone
     ·exact .inl ⟨rfl,rfl⟩
     ·exact .inr (.inr ⟨rfl,rfl,ev rfl⟩)
     ·exact .inr (.inl ⟨rfl,rfl,ek rfl⟩)
     ·exact (K3.out ⟨rfl,rfl⟩).elim
    clear ek ev c6;rcases hsh with ⟨rfl,rfl⟩ | ⟨rfl,rfl,e1,e2⟩ | ⟨rfl,rfl,e1,e2⟩
    all_goals
     go_enter Tryz.func93,Tryz.ntmps93
     go_wp2_with fail
     generalize hW:w.alloc (.cells #[.int .i64 rat,.int .i64 rtm,.bool _,.string rkey,.bool _,.string rval,.slice oa rhs.length cap] 95)=W;have FW:Hid (Fr (fun _=>False) w W):=zz (by rw [←hW]; exact (Fr.same w).alloc _);clear hW;go_loopw [8] (fun i wr=>∃k:Nat,i=.int .i64 k∧k≤rhs.length∧(∀h∈rhs.take k,zTa h)∧Fr (fun _=>False) W wr) (fun i _=>rhs.length - (intOf i).toNat)
     case atStart=>exact ⟨0,rfl,Nat.zero_le _,by simp,Fr.same _⟩
     case round=>
      obtain ⟨k,rfl,hk,hok,hf⟩:=hrel;have F:=zz hf;have HOK:=zz hok;clear hf hok;rcases Nat.lt_or_ge k rhs.length with hlt | hge
      ·obtain ⟨x,hx⟩:=zH hlt
       obtain ⟨a,rfl,-,c0,c1⟩:=H.out k x hx;have HX:=zz hx;have c0:=(FW.out.tr F.out).cel c0;have c1:=(FW.out.tr F.out).cel c1;have hf2:=F.out.alloc (.cells #[.string x.key,.string x.val] 97);have F2:=zz hf2;have hxe:=@yv x.key;have hxs:x.key.toList=[]↔x.key.size=0:=by
        rw [←hxe];constructor
        ·rintro h; rw [h]; rfl
        ·intro h; exact ByteArray.size_eq_zero_iff.1 h
       have HXS:=zz hxs;clear hx hf2 hxe hxs;by_cases hh:1≤x.key.size∧x.key.size≤1000∧x.val.size≤1000
       ·obtain ⟨g1,g2,g3⟩:=hh
        have g4:¬x.key.toList=[]:=fun h=>by have:=HXS.out.1 h; omega
        have g5:x.key.toList.isEmpty=false:=by simpa using g4
        go_wp2_with fail
        go_roundw
        case rel=>
         refine ⟨k+1,by go_num,by omega,?_,F2.out⟩;intro h hh;rw [List.take_add_one,HX.out] at hh;rcases List.mem_append.1 hh with h8 | h8
         ·exact HOK.out h h8
         ·simp at h8; subst h8; exact ⟨g1,g2,g3⟩
        case measure=>simp [intOf]; omega
       ·have HNO:=zz (BAD.out ⟨x,List.mem_of_getElem? HX.out,hh⟩)
        have hh2:x.key.size < 1∨(1≤x.key.size∧1000 < x.key.size)∨((1≤x.key.size∧x.key.size≤1000)∧1000 < x.val.size):=by omega
        clear hh;rcases hh2 with g1 | ⟨g1,g2⟩ | ⟨⟨g1,g2⟩,g3⟩
        ·have g4:x.key.toList=[]:=HXS.out.2 (by omega)
         go_wp2_with fail
         go_ret
         exact HNO.out _ (FW.out.tr F2.out)
        ·have g4:¬x.key.toList=[]:=fun h=>by have:=HXS.out.1 h; omega
         have g5:x.key.toList.isEmpty=false:=by simpa using g4
         go_wp2_with fail
         go_ret
         exact HNO.out _ (FW.out.tr F2.out)
        ·have g4:¬x.key.toList=[]:=fun h=>by have:=HXS.out.1 h; omega
         have g5:x.key.toList.isEmpty=false:=by simpa using g4
         go_wp2_with fail
         go_ret
         exact HNO.out _ (FW.out.tr F2.out)
      ·have hall:=HOK.out
       rw [List.take_of_length_le hge] at hall;have HALL:=zz (OK.out hall);clear hall;go_wp2_with fail
       go_ret
       exact HALL.out _ (FW.out.tr F.out)
   ·have BAD:=zz (bad fun hr=>hfl ⟨hr.bare,hr.gone,hr.both⟩)
    obtain ⟨⟨h1,h2⟩,h3,h4⟩:=hn;obtain ⟨h5,h6,h7⟩:=hl;obtain ⟨rat,rtm,rbare,rkey,rgone,rval,rhs⟩:=r;unfold xy;dsimp only at *;have NF:=zz hfl;have ek:=@yv rkey;have ev:=@yv rval;have EK:=zz ek;have EV:=zz ev;clear hfl bad ek ev;cases rbare <;> cases rgone
    all_goals
     go_enter Tryz.func93,Tryz.ntmps93
     go_wp2_with fail
    all_goals first
     | (go_ret; exact BAD.out _ FA.out)
     | (exfalso; have h1:=NF.out; have h2:=EK.out; have h3:=EV.out; simp_all; done)
  ·have BAD:=zz (bad fun hr=>hl ⟨hr.key,hr.val,hr.hs⟩)
   have NL:=zz hl;obtain ⟨⟨h1,h2⟩,h3,h4⟩:=hn;obtain ⟨rat,rtm,rbare,rkey,rgone,rval,rhs⟩:=r;unfold xy;dsimp only at *;clear bad hl;go_enter Tryz.func93,Tryz.ntmps93
   go_wp2_with fail
   all_goals first
    | (exfalso; have h9:=NL.out; omega)
    | (go_ret; exact BAD.out _ FA.out)
 ·have BAD:=zz (bad fun hr=>hn ⟨⟨hr.at0,hr.at1⟩,hr.tm0,hr.tm1⟩)
  have NN:=zz hn;obtain ⟨rat,rtm,rbare,rkey,rgone,rval,rhs⟩:=r;unfold xy;dsimp only at *;clear hn bad;go_enter Tryz.func93,Tryz.ntmps93
  go_wp2_with fail
  all_goals first
   | (exfalso; have h9:=NN.out; omega)
   | (go_ret; exact BAD.out _ FA.out)
open Go.Shelf
theorem xZ {w a b:World} {B:Nat} (h:Fr (fun _=>False) w a) (k:Below B a b) (hB:w.heap.size≤B):Fr (fun _=>False) w b:=
 ⟨k.os.trans h.os,k.tape.trans h.tape,k.output.trans h.output,Nat.le_trans h.size k.size,fun i hi hn=>(k.block i (by omega)).trans (h.block i hi hn)⟩
theorem zTb:(Tryz.prog.info? 358).map (·.size)=some 2:=by kernel_rfl
theorem liesBld:liesAt Tryz.prog Tryz.prog.depth 358 (2 / Tryz.prog.cellsOf 358) 0 358 1=true:=by kernel_rfl
theorem zGl (b:Nat) (w:World) (h0:w.cell? ⟨b,0,none⟩=some (.pointer (some ⟨b,0,none⟩))):
  Calls Tryz.prog 291 #[.pointer (some ⟨b,0,none⟩)] w fun e w'=>e=.returned (.tuple #[])∧w'=w:=by
 obtain ⟨j,hj,_⟩:=Option.map_eq_some_iff.1 zTb;go_enter Tryz.func291,Tryz.ntmps291
 go_wp2
 rw [Lib.run_neq_ptr_same w _ Tryz.underlying356 hj];go_wp2
 go_end0
 exact ⟨rfl,rfl⟩
theorem zFj (b:Nat) (w:World) (h0:w.cell? ⟨b,0,none⟩=some (.pointer none)) (hsh:w.shape? b=some (358,2)) (hfz:w.frozen? ⟨b,0,none⟩=false):
  Calls Tryz.prog 291 #[.pointer (some ⟨b,0,none⟩)] w fun e w'=>e=.returned (.tuple #[])∧w'=w.setCell ⟨b,0,none⟩ (.pointer (some ⟨b,0,none⟩)):=by
 obtain ⟨j,hj,hjs⟩:=Option.map_eq_some_iff.1 zTb;go_enter Tryz.func291,Tryz.ntmps291
 go_wp2
 rw [Lib.run_to_unsafe w ⟨b,0,none⟩ Tryz.underlying356 Tryz.underlying406 hj (by rw [hjs]; decide) hsh (Nat.zero_lt_succ 1)];simp only [Result.andThen];rw [Oper.upon_value];go_wp2
 rw [run_callFunc_extern Tryz.func307 (by kernel_rfl) (by kernel_rfl) (by kernel_rfl) (e:=Extern.AbiNoEscape.same) (by kernel_rfl)];rw [Lib.run_noEscape];simp only [Result.andThen];rw [Oper.upon_value];go_wp2
 rw [Lib.run_from_unsafe w ⟨b,0,none⟩ Tryz.underlying406 Tryz.underlying356 hj hsh liesBld];simp only [Result.andThen];rw [Oper.upon_value];go_wp2
 go_end0
 exact ⟨rfl,rfl⟩
def zIm (b:Nat) (w w':World):Prop:=∀(i:Nat) (c:Array Value) (e:TypeId) (f:Nat × Nat),i≠b→e≠5→w.heap[i]?=some (.cells c e f)→w'.heap[i]?=some (.cells c e f)
theorem zIm.refl (b:Nat) (w:World):zIm b w w:=fun _ _ _ _ _ _ h=>h
theorem zIm.trans {b:Nat} {x y z:World} (h:zIm b x y) (k:zIm b y z):zIm b x z:=fun i c e f h1 h2 h3=>k i c e f h1 h2 (h i c e f h1 h2 h3)
theorem zGm (B b:Nat) (bs:List Value) (w:World) (h:Lib.IsBuilder 358 5 B b bs w):
  Calls Tryz.prog 291 #[.pointer (some ⟨b,0,none⟩)] w fun e w'=>e=.returned (.tuple #[])∧(Lib.BuilderAt 358 5 B b (.pointer (some ⟨b,0,none⟩)) bs w'∧Below B w w'∧zIm b w w'):=by
 rcases h with h | h
 ·refine (zFj b w h.cell0 h.shape h.frozen0).mono ?_
  rintro e w' ⟨rfl,rfl⟩;exact ⟨rfl,h.used _,(Below.refl B w).setCell (p:=⟨b,0,none⟩) h.1 _,fun i c e f h1 _ h3=>(zV w h1 _).trans h3⟩
 ·refine (zGl b w h.cell0).mono ?_
  rintro e w' ⟨rfl,rfl⟩;exact ⟨rfl,h,Below.refl B _,zIm.refl _ _⟩
theorem zQc (B b:Nat) (bs:List Value) (s:ByteArray) (w:World) (h:Lib.IsBuilder 358 5 B b bs w) (hlen:bs.length+s.size≤140737488355328) (hBw:B≤w.heap.size):
  Calls Tryz.prog 245 #[.pointer (some ⟨b,0,none⟩),.string s] w fun e w'=>e=.returned (.tuple #[.int .i64 s.size,.nilIface])∧(Lib.BuilderAt 358 5 B b (.pointer (some ⟨b,0,none⟩)) (bs++Lib.strCells s) w'∧Below B w w'∧zIm b w w'):=by
 obtain ⟨i0,hi,hz0,hz1,hz2⟩:=info_parts zMm;go_enter Tryz.func245,Tryz.ntmps245
 go_wp2_with (go_at_call 291; refine (zGm B b bs _ h).mono ?_)
 rintro e w1 ⟨rfl,h1,hb1,hk1⟩;obtain ⟨hB,v,hbk,hown,hne⟩:=h1;have c0:w1.cell? ⟨b,0,none⟩=some (.pointer (some ⟨b,0,none⟩)):=by rw [Lib.cell_of_heap hbk]; rfl
 have c1:w1.cell? ⟨b,1,none⟩=some v:=by rw [Lib.cell_of_heap hbk]; rfl
 go_wp2_with (at_builtin; refine Lib.wpList_append_own_string _ rfl _ _ 305 9 rfl B 5 i0 Tryz.underlying305 Tryz.underlying9 hi hz0 hz1 hz2 _ _ _ rfl hown s rfl ?c3 ?c4 ?c5 ?_)
 case c3=>unfold maxLen; omega
 case c4=>omega
 case c5=>have:=hb1.size; omega
 intro v' w2 hown' hgrow _;have hlt:b < w1.heap.size:=by
  rcases Nat.lt_or_ge b w1.heap.size with h' | h'
  ·exact h'
  ·simp [Array.getElem?_eq_none h'] at hbk
 have hb2:w2.heap[b]?=some (.cells #[.pointer (some ⟨b,0,none⟩),v] 358 (0,0)):=by
  rw [hgrow.block b hlt (fun e=>hne e.symm)];exact hbk
 have d0:w2.cell? ⟨b,0,none⟩=some (.pointer (some ⟨b,0,none⟩)):=by rw [Lib.cell_of_heap hb2]; rfl
 have d1:w2.cell? ⟨b,1,none⟩=some v:=by rw [Lib.cell_of_heap hb2]; rfl
 have f1:w2.frozen? ⟨b,1,none⟩=false:=Lib.frozen_of_heap hb2 1;obtain ⟨ao,n',cap,rfl⟩:∃ao n' cap,v'=.slice ao n' cap:=by
  rcases hown'.2 with ⟨hv,_⟩ | ⟨g,cap,cur,hv,_⟩
  ·exact ⟨_,_,_,hv⟩
  ·exact ⟨_,_,_,hv⟩
 go_wp2
 go_ret2
 refine ⟨rfl,?_,?_,?_⟩
 ·exact Lib.BuilderAt.put (T:=358) (e:=5) hB hb2 (bs':=bs++Lib.strCells s) (by simpa [Lib.strCells_length] using hown') (by decide)
 ·exact (hb1.grown hgrow (by have:=hb1.size; omega) (fun k hk=>(hown.lt k hk).1)).setCell (p:=⟨b,1,none⟩) hB _
 ·refine hk1.trans fun i c e f g1 g2 g3=>(zV w2 g1 _).trans ((hgrow.block i (zA g3) fun hr=>?_).trans g3)
  rcases hown.2 with ⟨hv,_⟩ | ⟨g,cap2,cur,hv,_,hg,_⟩
  ·rw [hv] at hr; cases hr
  ·rw [hv] at hr
   have e1:i=g:=by simpa [Value.ownBlock] using hr
   subst e1;rw [hg] at g3;injection g3 with g3
   injection g3 with _ g3 _
   exact g2 g3.symm
end Go.Proofs.YtfdhofabgdkkkaaGreatDoor
