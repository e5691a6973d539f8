/- The example batches; Open of a disk that is none: walks and laws. -/
import Derived.Test.YtgbcdgfpmihkcaaGreatDoorG9
import Derived.Test.YtgbcdgfpmihkcaaGreatDoorSk
namespace Go.Proofs.YtgbcdgfpmihkcaaGreatDoor
open Go.RowKit Go.Fm Go.BigFrame Go.Shelf Go.Maps
set_option linter.unusedVariables false
set_option linter.unusedSimpArgs false
set_option maxRecDepth 100000

def kS : ByteArray := ⟨#[107]⟩
def vS : ByteArray := ⟨#[118]⟩
def aS : ByteArray := ⟨#[97]⟩
def exR (n : Int) : Rec := ⟨0, n, false, kS, false, vS, []⟩
def exB (n : Int) : Bat := ⟨n, 1, -1, -1, -1, [exR n]⟩
theorem exR_ok {n : Int} (h0 : 0 ≤ n) (h1 : n ≤ 1000) : RecOK (exR n) := by
  constructor <;> simp [exR, kS, vS, ByteArray.size] <;> omega
theorem putS_pos (n : Int) : 1 ≤ (putS n).size := by rw [putS_len]; exact putL_pos _
theorem exR_size {n : Int} (h0 : 0 ≤ n) (h1 : n ≤ 1000) : (encS (exR n)).size ≤ 3000 := by
  have := encTo_size (exR_ok h0 h1) 0 (Nat.zero_le _)
  simpa [encS, exR] using this
theorem exB_body {n : Int} (h0 : 0 ≤ n) (h1 : n ≤ 1000) : 6 ≤ (bodyS (exB n)).size ∧ (bodyS (exB n)).size ≤ 3060 := by
  have hr := exR_size h0 h1
  have w1 : (Lit.int .i64 n).wf = true := by simp [Lit.wf, IntKind.min, IntKind.max, IntKind.signed, IntKind.bits]; omega
  have a1 := putS_size w1
  have a2 := putS_size (n := 1) (by decide)
  have a3 := putS_size (n := -1) (by decide)
  have b1 := putS_pos n
  have b2 := putS_pos 1
  have b3 := putS_pos (-1)
  have e : bodyS (exB n) = putS n ++ putS 1 ++ putS (-1) ++ putS (-1) ++ putS (-1) ++ putS 1 ++ encS (exR n) := rfl
  rw [e]
  simp only [ByteArray.size_append]
  omega
theorem exB_ok {n : Int} (h0 : 0 ≤ n) (h1 : n ≤ 1000) : BatOK (exB n) := by
  have hb := exB_body h0 h1
  refine { base0 := h0, base1 := by show n ≤ _; omega, span0 := by show (1 : Int) ≤ 1; omega, span1 := by show (1 : Int) ≤ 50; omega, who := .inl ⟨rfl, rfl, rfl⟩, len := by simp [exB], recs := fun k r hk => ?_, body := by omega }
  cases k with
  | zero =>
    simp [exB] at hk
    subst hk
    exact ⟨exR_ok h0 h1, by show (0 : Int) < 1; omega, by show (-1 : Int) < 0; omega⟩
  | succ k => simp [exB] at hk
theorem exB_bsz {n : Int} (h0 : 0 ≤ n) (h1 : n ≤ 1000) : 14 ≤ bsz (exB n) ∧ bsz (exB n) ≤ 3068 := by
  have := exB_body h0 h1
  unfold bsz
  rw [batS_size]
  omega
def ExPost (n : Int) (w : World) (e : Ending) (w' : World) : Prop := ∃ rv, e = .returned (batV (exB n) rv) ∧ RecsR (fun b => w.heap.size ≤ b) w' rv (exB n).recs ∧ Fr (fun _ => False) w w'
theorem simple_walk (n : Int) (w : World) : Calls Tryz.prog 23 #[.int .i64 n] w (ExPost n w) := by
  go_enter Tryz.func23, Tryz.ntmps23
  go_wp2_with fail
  refine bodyPost_ret (v := batV (exB n) (.slice (some ⟨w.heap.size + 1, 0, none⟩) 1 1)) (by simp [results, Tryz.f23, go_sem, batV, exB]) rfl ⟨_, rfl, ?_, ((Fr.same w).alloc _).alloc _⟩
  have hs : (w.alloc (.cells #[.int .i64 n, .int .i64 1, .int .i64 (-1), .int .i64 (-1), .int .i64 (-1), .slice (some ⟨w.heap.size + 1, 0, none⟩) 1 1] 34)).heap.size = w.heap.size + 1 := by simp
  generalize (w.alloc (.cells #[.int .i64 n, .int .i64 1, .int .i64 (-1), .int .i64 (-1), .int .i64 (-1), .slice (some ⟨w.heap.size + 1, 0, none⟩) 1 1] 34)) = W at hs ⊢
  refine ⟨_, _, rfl, fun k r hk => ?_⟩
  cases k with
  | zero =>
    simp [exB] at hk
    subst hk
    have hc := cell_alloc_new W #[.int .i64 0, .int .i64 n, .bool false, .string kS, .bool false, .string vS, .slice none 0 0] 81
    rw [hs] at hc
    exact ⟨⟨w.heap.size + 1, 0, none⟩, .slice none 0 0, rfl, Nat.le_succ _, ⟨hc 0, hc 1, hc 2, hc 3, hc 4, hc 5, hc 6⟩, hds_nil _ _⟩
  | succ k => simp [exB] at hk
theorem sopen_nil (nm : ByteArray) (base every : Int) (w : World) : Calls Tryz.prog 8 #[.pointer none, .string nm, .int .i64 base, .int .i64 every] w fun e w' => e = .returned (.tuple #[.pointer none, .int .i64 1]) ∧ Fr (fun _ => False) w w' := by
  by_cases h : 1 ≤ every ∧ every ≤ 1000000
  · obtain ⟨h1, h2⟩ := h
    go_enter Tryz.func8, Tryz.ntmps8
    go_wp2_with fail
    refine (new_walk every w h1 h2).mono ?_
    rintro e w' ⟨rfl, rfl⟩
    have hf := (Fr.same w).alloc (.cells #[.int .i64 every, .slice none 0 0, .slice none 0 0, .bool false, .complex .f64 0 0, .int .i64 0] 111)
    go_wp2_with fail
    go_ret2
    exact ⟨rfl, hf⟩
  · go_enter Tryz.func8, Tryz.ntmps8
    go_wp2_with fail
    refine (new_no every w (by omega)).mono ?_
    rintro e w' ⟨rfl, rfl⟩
    go_wp2_with fail
    go_ret2
    exact ⟨rfl, Fr.same _⟩
end Go.Proofs.YtgbcdgfpmihkcaaGreatDoor

/- live: the document's example answers. -/
namespace Go.Proofs.YtgbcdgfpmihkcaaGreatDoor
open Go.RowKit Go.Fm Go.BigFrame Go.Shelf Go.Maps
set_option linter.unusedVariables false
set_option linter.unusedSimpArgs false
set_option maxRecDepth 100000

def F0 : ByteArray → ByteArray × Nat := fun _ => (ByteArray.empty, 0)
theorem updF_upd (F : ByteArray → ByteArray × Nat) (nm : ByteArray) (a b : ByteArray) (m n : Nat) : updF (updF F nm a m) nm b n = updF F nm b n := funext fun x => by
  unfold updF; split <;> rfl
theorem getL_one (nm : ByteArray) (fb : Nat) : getL [(nm, fb)] nm = some fb := by simp [getL]
theorem noBat_empty : NoBat ByteArray.empty 0 := noBat_torn (.none (by decide) (by decide)) (by decide)
theorem scan_empty (e : Int) : Scan ByteArray.empty 0 e [] 0 := .stop 0 e noBat_empty (by decide)
theorem extract_all (s : ByteArray) : s.extract 0 s.size = s := bytes_ext (by rw [extract_list, List.drop_zero, List.take_of_length_le (by rw [size_list]; exact Nat.le_refl _)])
/-- The bytes of the first batch, and some of the second one's. -/
def ex5 : ByteArray := batS (exB 5)
def ex6 : ByteArray := batS (exB 6)
def exT : ByteArray := (ex5 ++ ex6).extract 0 (ex5.size + 9)
theorem ex_sizes : 14 ≤ ex5.size ∧ ex5.size ≤ 3068 ∧ 14 ≤ ex6.size ∧ ex6.size ≤ 3068 :=
  ⟨(exB_bsz (n := 5) (by omega) (by omega)).1, (exB_bsz (n := 5) (by omega) (by omega)).2, (exB_bsz (n := 6) (by omega) (by omega)).1, (exB_bsz (n := 6) (by omega) (by omega)).2⟩
theorem exT_list : exT.data.toList = ex5.data.toList ++ ex6.data.toList.take 9 := by
  unfold exT
  rw [extract_list, List.drop_zero, append_list, List.take_append, size_list, List.take_of_length_le (by rw [size_list]; omega)]
  congr 2
  omega
theorem exT_size : exT.size = ex5.size + 9 := by
  have h := congrArg List.length exT_list
  have := ex_sizes
  rw [size_list, List.length_append, List.length_take, size_list, size_list] at h
  omega
theorem exT_scan : Scan exT 0 5 [exB 5] ex5.size := by
  have hs := ex_sizes
  have ht := exT_size
  have h5 : BatIs exT 0 (exB 5) := batIs_of (rest := ex6.data.toList.take 9) (exB_ok (by omega) (by omega)) ⟨Nat.zero_le _, by rw [List.drop_zero, exT_list]; rfl⟩
  have hp : Pt exT ex5.size (ex6.data.toList.take 9) := ⟨by omega, by rw [exT_list, List.drop_append_of_le_length (by rw [size_list]; exact Nat.le_refl _), ← size_list, List.drop_length, List.nil_append]⟩
  have h6 : Torn exT ex5.size := torn_of (b := exB 6) (exB_ok (by omega) (by omega)) hp (List.take_prefix _ _) (by
    rw [List.length_take]
    show min 9 ex6.data.toList.length < ex6.size
    omega)
  have e : 0 + bsz (exB 5) = ex5.size := by rw [Nat.zero_add]; rfl
  refine .next 0 5 (exB 5) [] ex5.size (exB_ok (by omega) (by omega)) h5 (by show (5 : Int) ≤ 5; omega) ?_
  rw [e]
  exact .stop _ _ (noBat_torn h6 (by omega)) (by omega)
def exS0 : Seg := ⟨5, 10, []⟩
def exS1 : Seg := ⟨5, 10, [exB 5]⟩
def exS2 : Seg := ⟨5, 10, [exB 5, exB 6]⟩
theorem exS1_end : exS1.end' = 6 := rfl
theorem exS2_end : exS2.end' = 7 := rfl
theorem code0 {s : Seg} {b : Bat} {room used fuse : Int} (hb : BatOK b) (he : s.end' ≤ b.base) (hf : fuse ≠ 0) (hr : used + bsz b ≤ room) : apCode s b room used fuse = 0 := by
  unfold apCode
  rw [if_pos ⟨hb, he⟩]
  unfold appCode
  rw [if_neg hf, if_neg (by omega)]
theorem code1 {s : Seg} {b : Bat} {room used fuse : Int} (he : b.base < s.end') : apCode s b room used fuse = 1 := by
  unfold apCode
  rw [if_neg (fun h => by have := h.2; omega)]
/-- A disk that has at most one file. -/
structure Disk1 (w0 w : World) (db mb : Nat) (nm : ByteArray) (room : Int) (t : ByteArray) (m : Nat) (fuse : Int) (L : List Row) : Prop where
  kind : (L = [] ∧ t = ByteArray.empty ∧ m = 0) ∨ ∃ fb, L = [(nm, fb)]
  dk : Dk w db mb room t.size fuse L (updF F0 nm t m)
  new : ∀ i, DkS db mb L i → w0.heap.size ≤ i
  mle : m ≤ t.size
  sz : (t.size : Int) ≤ room
  rm : room ≤ 4194304
  fw : (Lit.int .i64 fuse).wf = true
/-- A segment, and its disk, apart; both are the call's own. -/
structure SD (w0 w : World) (sb db mb : Nat) (nm : ByteArray) (s : Seg) (room : Int) (t : ByteArray) (m : Nat) (fuse : Int) (L : List Row) (S : Nat → Prop) : Prop where
  sg : Sg w0.heap.size w sb db nm s S
  dk : Disk1 w0 w db mb nm room t m fuse L
  ap : ∀ i, S i → ¬ DkS db mb L i
  lt : ∀ i, S i → w0.heap.size ≤ i ∧ i < w.heap.size
  fr : Fr (fun _ => False) w0 w
section
variable {w0 w w' : World} {sb db mb : Nat} {nm : ByteArray} {s : Seg} {room : Int} {t : ByteArray} {m : Nat} {fuse : Int} {L : List Row} {S : Nat → Prop}
theorem Disk1.old (h : Disk1 w0 w db mb nm room t m fuse L) (hf : Fr (fun _ => False) w w') : Disk1 w0 w' db mb nm room t m fuse L := ⟨h.kind, h.dk.old hf, h.new, h.mle, h.sz, h.rm, h.fw⟩
theorem SD.old (h : SD w0 w sb db mb nm s room t m fuse L S) (hf : Fr (fun _ => False) w w') : SD w0 w' sb db mb nm s room t m fuse L S :=
  ⟨h.sg.old hf, h.dk.old hf, h.ap, fun i hi => ⟨(h.lt i hi).1, Nat.lt_of_lt_of_le (h.lt i hi).2 hf.size⟩, h.fr.tr hf⟩
/-- .. while other blocks of the call's own are written. -/
theorem SD.frame {R : Nat → Prop} (h : SD w0 w sb db mb nm s room t m fuse L S) (hf : Fr R w w') (h1 : ∀ i, S i → ¬ R i) (h2 : ∀ i, DkS db mb L i → ¬ R i) (h3 : ∀ i, R i → w0.heap.size ≤ i) : SD w0 w' sb db mb nm s room t m fuse L S :=
  ⟨h.sg.fr hf h1, ⟨h.dk.kind, h.dk.dk.fr hf h2, h.dk.new, h.dk.mle, h.dk.sz, h.dk.rm, h.dk.fw⟩, h.ap, fun i hi => ⟨(h.lt i hi).1, Nat.lt_of_lt_of_le (h.lt i hi).2 hf.size⟩, h.fr.trans hf fun i hi => .inr (h3 i hi)⟩
theorem Disk1.ok (h : Disk1 w0 w db mb nm room t m fuse L) : DkOK room t.size fuse L (updF F0 nm t m) := by
  have h1 := h.sz
  have h2 := h.rm
  refine ⟨by omega, by omega, h.fw, fun r hr => ?_⟩
  rcases h.kind with ⟨rfl, -⟩ | ⟨fb, rfl⟩
  · cases hr
  · rw [List.mem_singleton.1 hr, updF_same]
    exact ⟨by dsimp only; omega, h.mle⟩
theorem Disk1.cur (h : Disk1 w0 w db mb nm room t m fuse L) : curF L (updF F0 nm t m) nm = (t, m) := by
  unfold curF
  rcases h.kind with ⟨rfl, rfl, rfl⟩ | ⟨fb, rfl⟩
  · simp [getL]
  · rw [getL_one, updF_same]
theorem Disk1.le (h : Disk1 w0 w db mb nm room t m fuse L) : ∀ r ∈ L, ((updF F0 nm t m) r.1).1.size ≤ 4194304 := fun r hr => by
  have h1 := h.sz
  have h2 := h.rm
  rcases h.kind with ⟨rfl, -⟩ | ⟨fb, rfl⟩
  · cases hr
  · rw [List.mem_singleton.1 hr, updF_same]
    dsimp only; omega
theorem Disk1.len (h : Disk1 w0 w db mb nm room t m fuse L) : L.length < 1000 := by
  rcases h.kind with ⟨rfl, -⟩ | ⟨fb, rfl⟩ <;> simp
theorem burn_wf (h : (Lit.int .i64 fuse).wf = true) : (Lit.int .i64 (burn fuse)).wf = true := by
  unfold burn
  simp [Lit.wf, IntKind.min, IntKind.max, IntKind.signed, IntKind.bits] at h ⊢
  split <;> omega
def App1Post (w0 w : World) (sb db mb : Nat) (nm : ByteArray) (s : Seg) (room : Int) (t : ByteArray) (m : Nat) (fuse : Int) (L : List Row) (S : Nat → Prop) (b : Bat) (e : Ending) (w' : World) : Prop :=
  e = .returned (.int .i64 (apCode s b room t.size fuse)) ∧ (apCode s b room t.size fuse = 0 → ∃ L' S', SD w0 w' sb db mb nm (s.push b) room (t ++ batS b) m (burn fuse) L' S' ∧ Fr (fun i => S i ∨ DkS db mb L i) w w' ∧ (∀ i, S' i → S i ∨ w.heap.size ≤ i) ∧ ∀ i, DkS db mb L' i → DkS db mb L i ∨ w.heap.size ≤ i) ∧ (apCode s b room t.size fuse ≠ 0 → Fr (fun _ => False) w w')
theorem apCode_room {s : Seg} {b : Bat} {room used fuse : Int} (h : apCode s b room used fuse = 0) : used + bsz b ≤ room := by
  unfold apCode at h
  split at h
  · unfold appCode at h
    split at h
    · cases h
    · split at h
      · cases h
      · omega
  · cases h
theorem append1 (h : SD w0 w sb db mb nm s room t m fuse L S) (h1 : 1 ≤ nm.size) (h2 : nm.size ≤ 40) (K : Nat → Prop) (hK : ∀ k, K k → ¬ DkS db mb L k) (b : Bat) (v : Value) (hr : RecsR K w v b.recs) (hst : StepsOK w0) (hn : s.l.length < 800) (hsum : sumB s.l ≤ 900000000) (hw0 : 1 ≤ w0.heap.size) :
    Calls Tryz.prog 12 #[.pointer (some ⟨sb, 0, none⟩), batV b v] w (App1Post w0 w sb db mb nm s room t m fuse L S b) := by
  refine (sappend_walk h.sg h.dk.dk h.dk.ok h.ap (fun i hi => (h.lt i hi).2) h1 h2 h.dk.len h.dk.rm h.dk.le K hK b v hr (hst.old h.fr) (fun i hi => ?_) hn hsum h.fr.size).mono ?_
  · rcases hi with hi | hi
    · have := (h.lt i hi).1; omega
    · have := h.dk.new i hi; omega
  · rintro e w' ⟨rfl, hok, hno⟩
    refine ⟨rfl, fun h0 => ?_, hno⟩
    have hroom := apCode_room h0
    obtain ⟨S', L', hsg, hdk, hl1, hl2, hap, hS, hD, hf⟩ := hok h0
    rw [h.dk.cur, updF_upd] at hdk
    dsimp only at hdk
    have hsz : ((t ++ batS b).size : Int) = (t.size : Int) + bsz b := by rw [ByteArray.size_append]; rfl
    rw [← hsz] at hdk
    refine ⟨L', S', ⟨hsg, ⟨?_, hdk, fun i hi => ?_, by rw [ByteArray.size_append]; have := h.dk.mle; omega, by omega, h.dk.rm, burn_wf h.dk.fw⟩, hap, fun i hi => ?_, ?_⟩, hf, fun i hi => (hS i hi).imp id fun h => h.1, fun i hi => (hD i hi).imp id fun h => h.1⟩
    · rcases h.dk.kind with ⟨rfl, -⟩ | ⟨fb, rfl⟩
      · obtain ⟨fb, e⟩ := hl2 rfl
        exact .inr ⟨fb, by rw [e]; rfl⟩
      · exact .inr ⟨fb, hl1 ⟨fb, getL_one nm fb⟩⟩
    · rcases hD i hi with h9 | h9
      · exact h.dk.new i h9
      · have := h.fr.size; omega
    · rcases hS i hi with h9 | h9
      · have := h.lt i h9; have := hf.size; exact ⟨by omega, by omega⟩
      · have := h.fr.size; exact ⟨by omega, by omega⟩
    · exact h.fr.trans hf fun i hi => .inr (by
        rcases hi with hi | hi
        · exact (h.lt i hi).1
        · exact h.dk.new i hi)
def Sync1Post (w0 w : World) (sb db mb : Nat) (nm : ByteArray) (s : Seg) (room : Int) (t : ByteArray) (m : Nat) (fuse : Int) (L : List Row) (S : Nat → Prop) (e : Ending) (w' : World) : Prop :=
  e = .returned (.int .i64 (if fuse = 0 then 7 else 0)) ∧ ∃ f, SD w0 w' sb db mb nm s room t (if fuse = 0 then m else t.size) f L S ∧ (f = fuse ∨ f = burn fuse) ∧ Fr (DkS db mb L) w w'
theorem SD.keep (h : SD w0 w sb db mb nm s room t m fuse L S) (hf : Fr (DkS db mb L) w w') {m' : Nat} {f : Int} (hd : Dk w' db mb room t.size f L (updF F0 nm t m')) (hm : m' ≤ t.size) (hfw : (Lit.int .i64 f).wf = true) (hk : L = [] → m' = 0) : SD w0 w' sb db mb nm s room t m' f L S :=
  ⟨h.sg.fr hf h.ap, ⟨h.dk.kind.imp (fun ⟨a, b, _⟩ => ⟨a, b, hk a⟩) id, hd, h.dk.new, hm, h.dk.sz, h.dk.rm, hfw⟩, h.ap, fun i hi => ⟨(h.lt i hi).1, Nat.lt_of_lt_of_le (h.lt i hi).2 hf.size⟩, h.fr.trans hf fun i hi => .inr (h.dk.new i hi)⟩
theorem sync1 (h : SD w0 w sb db mb nm s room t m fuse L S) (h2 : nm.size ≤ 40) :
    Calls Tryz.prog 13 #[.pointer (some ⟨sb, 0, none⟩)] w (Sync1Post w0 w sb db mb nm s room t m fuse L S) := by
  refine (ssync_walk h.sg h.dk.dk h.dk.ok h2).mono ?_
  rintro e w' ⟨rfl, hok, hno, hf⟩
  by_cases h0 : fuse = 0
  · have hc : synCode fuse L nm = 7 := by unfold synCode; rw [if_pos h0]
    rw [hc] at hno ⊢
    refine ⟨by rw [if_pos h0]; rfl, fuse, ?_, .inl rfl, hf⟩
    rw [if_pos h0]
    exact h.keep hf (hno (by omega)) h.dk.mle h.dk.fw fun e => by
      rcases h.dk.kind with ⟨-, -, h⟩ | ⟨fb, h⟩
      · exact h
      · rw [e] at h; cases h
  · rcases h.dk.kind with ⟨hL, ht, hm⟩ | ⟨fb, hL⟩
    · have hc : synCode fuse L nm = 6 := by unfold synCode; rw [if_neg h0, hL]; rfl
      rw [hc] at hno ⊢
      refine ⟨by rw [if_neg h0]; rfl, fuse, ?_, .inl rfl, hf⟩
      rw [if_neg h0]
      have hz : t.size = m := by rw [ht, hm]; rfl
      rw [hz]
      exact h.keep hf (hno (by omega)) h.dk.mle h.dk.fw fun _ => hm
    · have hc : synCode fuse L nm = 0 := by unfold synCode; rw [if_neg h0, hL, getL_one]; rfl
      rw [hc] at hok ⊢
      have hd := hok rfl
      rw [updF_same, updF_upd] at hd
      refine ⟨by rw [if_neg h0]; rfl, burn fuse, ?_, .inr rfl, hf⟩
      rw [if_neg h0]
      exact h.keep hf hd (Nat.le_refl _) (burn_wf h.dk.fw) fun e => by rw [hL] at e; cases e
def Open1Post (w0 w : World) (db mb : Nat) (nm : ByteArray) (base every : Nat) (room : Int) (t : ByteArray) (m : Nat) (fuse : Int) (L : List Row) (l : List Bat) (q : Nat) (e : Ending) (w' : World) : Prop :=
  ∃ (sb : Nat) (S' : Nat → Prop) (f : Int), e = .returned (.tuple #[.pointer (some ⟨sb, 0, none⟩), .int .i64 0]) ∧ SD w0 w' sb db mb nm ⟨base, every, l⟩ room (t.extract 0 q) (min m q) f L S' ∧ (f = fuse ∨ f = burn fuse) ∧ (¬ q < t.size → f = fuse) ∧ Fr (DkS db mb L) w w'
theorem open1 (h : Disk1 w0 w db mb nm room t m fuse L) (hfr : Fr (fun _ => False) w0 w) (hfu : fuse ≠ 0) (h1 : 1 ≤ nm.size) (h2 : nm.size ≤ 40) (base every : Nat) (hb : base ≤ 1099511627776) (he1 : 1 ≤ every) (he2 : every ≤ 1000000) (l : List Bat) (q : Nat) (hsc : Scan t 0 base l q) (hst : StepsOK w0) (hl : l.length ≤ 800) (hw0 : 1 ≤ w0.heap.size) :
    Calls Tryz.prog 8 #[.pointer (some ⟨db, 0, none⟩), .string nm, .int .i64 base, .int .i64 every] w (Open1Post w0 w db mb nm base every room t m fuse L l q) := by
  have hsz := h.sz
  have hrm := h.rm
  have hw := hfr.size
  have hat := hsc.at'
  have key : ∀ e w', OpenPost w0.heap.size w db mb nm base every room t.size fuse L (updF F0 nm t m) t m l q e w' → Open1Post w0 w db mb nm base every room t m fuse L l q e w' := by
    rintro e w' ⟨sb, S', rfl, hsg, hS, hd1, hd2, hf⟩
    have hap : ∀ i, S' i → ¬ DkS db mb L i := fun i hi hd => by have := (hS i hi).1; have := h.dk.lt hd; omega
    have hlt : ∀ i, S' i → w0.heap.size ≤ i ∧ i < w'.heap.size := fun i hi => ⟨Nat.le_trans hw (hS i hi).1, (hS i hi).2⟩
    have hfw : Fr (fun _ => False) w0 w' := hfr.trans hf fun i hi => .inr (h.new i hi)
    by_cases hq : q < t.size
    · have hd := hd1 hq
      rw [updF_upd] at hd
      have hes : (t.extract 0 q).size = q := by rw [ByteArray.size_extract]; omega
      have hu : ((t.extract 0 q).size : Int) = (t.size : Int) - ((t.size : Int) - (q : Int)) := by rw [hes]; omega
      rw [← hu] at hd
      refine ⟨sb, S', burn fuse, rfl, ⟨hsg, ⟨?_, hd, h.new, by omega, by omega, hrm, burn_wf h.fw⟩, hap, hlt, hfw⟩, .inr rfl, fun h => (h hq).elim, hf⟩
      rcases h.kind with ⟨rfl, rfl, rfl⟩ | h
      · simp at hq
      · exact .inr h
    · have hqe : q = t.size := by omega
      have he : t.extract 0 q = t := by rw [hqe, extract_all]
      have hmn : min m q = m := by have := h.mle; omega
      exact ⟨sb, S', fuse, rfl, by rw [he, hmn]; exact ⟨hsg, ⟨h.kind, hd2 hq, h.new, h.mle, hsz, hrm, h.fw⟩, hap, hlt, hfw⟩, .inl rfl, fun _ => rfl, hf⟩
  rcases h.kind with ⟨hL, ht, hm⟩ | ⟨fb, hL⟩
  · refine (sopen_none h.dk h.ok hfu nm h1 h2 base every hb he1 he2 (by rw [hL]; rfl) l q (by rw [← ht]; exact hsc) (hst.old hfr) hl hw (by omega)).mono fun e w' hp => key e w' ?_
    rw [ht, hm] at *
    exact hp
  · exact (sopen_some h.dk h.ok hfu nm h1 h2 base every hb he1 he2 (by rw [hL]; exact getL_one nm fb) t m (updF_same _ _ _ _) (by omega) l q hsc (hst.old hfr) hl hw (by omega)).mono fun e w' hp => key e w' hp
end
end Go.Proofs.YtgbcdgfpmihkcaaGreatDoor

/- live of the segment laws: the walk. -/
namespace Go.Proofs.YtgbcdgfpmihkcaaGreatDoor
open Go.RowKit Go.Fm Go.BigFrame Go.Shelf Go.Maps
set_option linter.unusedVariables false
set_option linter.unusedSimpArgs false
set_option maxRecDepth 100000

section
variable {w0 w w' : World} {sb db mb : Nat} {nm : ByteArray} {s : Seg} {room : Int} {t : ByteArray} {m : Nat} {fuse : Int} {L : List Row} {S : Nat → Prop}
def Crash1Post (w0 w : World) (db mb : Nat) (nm : ByteArray) (room : Int) (t : ByteArray) (m : Nat) (L : List Row) (kp : Int) (e : Ending) (w' : World) : Prop :=
  (∃ c, e = .returned (.int .i64 c)) ∧ Disk1 w0 w' db mb nm room (t.extract 0 (crN m t.size kp)) (t.extract 0 (crN m t.size kp)).size (-1) L ∧ Fr (fun _ => False) w0 w' ∧ Fr (DkS db mb L) w w'
theorem crN_le {m s : Nat} (h : m ≤ s) (k : Int) : crN m s k ≤ s := by unfold crN; omega
theorem crash1 (h : Disk1 w0 w db mb nm room t m fuse L) (hfr : Fr (fun _ => False) w0 w) (hnm : nm.size ≤ maxLen) (kb kc : Nat) (kp : Int) (hk : w.cell? ⟨kb, 0, none⟩ = some (.int .i64 kp)) :
    Calls Tryz.prog 14 #[.pointer (some ⟨db, 0, none⟩), .slice (some ⟨kb, 0, none⟩) 1 kc] w (Crash1Post w0 w db mb nm room t m L kp) := by
  have hsz := h.sz
  have hrm := h.rm
  rcases h.kind with ⟨rfl, rfl, rfl⟩ | ⟨fb, rfl⟩
  · refine (crash_none h.dk _ _ _).mono ?_
    rintro e w' ⟨rfl, hd, hf⟩
    have he : (ByteArray.empty).extract 0 (crN 0 (ByteArray.empty).size kp) = ByteArray.empty := by
      have := ByteArray.size_extract (a := ByteArray.empty) (b := 0) (e := crN 0 (ByteArray.empty).size kp)
      exact bytes_ext (by simp)
    exact ⟨⟨_, rfl⟩, by rw [he]; exact ⟨.inl ⟨rfl, rfl, rfl⟩, hd, h.new, Nat.le_refl _, hsz, hrm, by decide⟩, hfr.trans hf fun i hi => .inr (h.new i hi), hf⟩
  · refine (crash_one h.dk t m (updF_same _ _ _ _) h.mle (by omega) (by omega) (by omega) hnm kb kc kp hk).mono ?_
    rintro e w' ⟨hc, hd, hf⟩
    have hle := crN_le h.mle kp
    have hes : (t.extract 0 (crN m t.size kp)).size = crN m t.size kp := by rw [ByteArray.size_extract]; omega
    have hu : ((t.extract 0 (crN m t.size kp)).size : Int) = (t.size : Int) - ((t.size : Int) - (crN m t.size kp : Nat)) := by rw [hes]; omega
    rw [updF_upd, ← hu] at hd
    exact ⟨hc, ⟨.inr ⟨fb, rfl⟩, hd, h.new, Nat.le_refl _, by omega, hrm, by decide⟩, hfr.trans hf fun i hi => .inr (h.new i hi), hf⟩
end
theorem dnew1 (room : Int) (w : World) (h1 : 1 ≤ room) (h2 : room ≤ 4194304) (nm : ByteArray) : Calls Tryz.prog 7 #[.int .i64 room] w fun e w' => ∃ db mb, e = .returned (.tuple #[.pointer (some ⟨db, 0, none⟩), .int .i64 0]) ∧ Disk1 w w' db mb nm room ByteArray.empty 0 (-1) [] ∧ Fr (fun _ => False) w w' := by
  refine (dnew_walk room (updF F0 nm ByteArray.empty 0) w h1 h2).mono ?_
  rintro e w' ⟨db, mb, rfl, hd, hf, hb1, hb2⟩
  refine ⟨db, mb, rfl, ⟨.inl ⟨rfl, rfl, rfl⟩, hd, fun i hi => ?_, Nat.le_refl _, by show (0 : Int) ≤ room; omega, h2, by decide⟩, hf⟩
  rcases hi with rfl | rfl | ⟨r, hr, -⟩
  · exact hb1
  · exact hb2
  · cases hr
theorem pick_ex : pick 0 0 [exB 5] 0 [] = [exB 5] := by
  simp [pick, exB]
set_option maxHeartbeats 16000000 in
theorem live_walk (w : World) (hst : StepsOK w) (hw0 : 1 ≤ w.heap.size) : Calls Tryz.prog 6 #[] w fun e w' => e = .returned (.bool true) ∧ Fr (fun _ => False) w w' := by
  have HST := Lib.hid hst
  have a1 : 1 ≤ aS.size := by decide
  have a2 : aS.size ≤ 40 := by decide
  have b5 := exB_ok (n := 5) (by omega) (by omega)
  have b6 := exB_ok (n := 6) (by omega) (by omega)
  have z5 := (exB_bsz (n := 5) (by omega) (by omega)).2
  have z6 := (exB_bsz (n := 6) (by omega) (by omega)).2
  have B5 := Lib.hid b5
  have B6 := Lib.hid b6
  have HA : Hid (aS = ⟨#[97]⟩) := Lib.hid rfl
  clear hst b5 b6
  go_enter Tryz.func6, Tryz.ntmps6
  go_wp2_with fail
  refine (dnew1 10000 w (by omega) (by omega) aS).mono ?_
  rintro e w1 ⟨db, mb, rfl, hd1, hf1⟩
  have D1 := Lib.hid hd1
  have F1 := Lib.hid hf1
  clear hd1 hf1
  go_wp2_with fail
  refine (open1 D1.out F1.out (by omega) a1 a2 5 10 (by omega) (by omega) (by omega) [] 0 (scan_empty 5) HST.out (by simp) hw0).mono ?_
  rintro e w2 ⟨sb, S2, f, rfl, hs2, -, hff, -⟩
  have hf : f = -1 := hff (by simp)
  subst hf
  have SD2 : SD w w2 sb db mb aS exS0 10000 ByteArray.empty 0 (-1) [] S2 := by
    have : ByteArray.empty.extract 0 0 = ByteArray.empty := bytes_ext (by simp)
    rw [this] at hs2
    exact hs2
  have SD2 := Lib.hid SD2
  clear hs2 hff D1 F1
  go_wp2_with fail
  refine (sopen_nil _ 5 10 _).mono ?_
  rintro e w3 ⟨rfl, hf3⟩
  have SD3 := Lib.hid (SD2.out.old hf3)
  clear hf3 SD2
  go_wp2_with fail
  refine (simple_walk 5 _).mono ?_
  rintro e w4 ⟨rv4, rfl, hr4, hf4⟩
  have SD4 := Lib.hid (SD3.out.old hf4)
  have hc1 : apCode exS0 (exB 5) 10000 (ByteArray.empty.size : Int) (-1) = 0 := code0 B5.out (by show (5 : Int) ≤ 5; omega) (by omega) (by show (0 : Int) + _ ≤ _; omega)
  have hap := append1 SD4.out a1 a2 (fun b => w3.heap.size ≤ b) (fun k hk hd => by have := SD3.out.dk.dk.lt hd; omega) (exB 5) rv4 hr4 HST.out (by simp [exS0]) (by simp [exS0, sumB]) hw0
  unfold App1Post at hap
  rw [hc1] at hap
  have HAP := Lib.hid hap
  clear hap hc1 hr4 hf4 SD3
  unfold batV at HAP
  unfold batV
  go_wp2_with fail
  refine HAP.out.mono ?_
  rintro e w5 ⟨rfl, hok, -⟩
  obtain ⟨L5, S5, hs5, -⟩ := hok trivial
  have SD5 : SD w w5 sb db mb aS exS1 10000 ex5 0 (-1) L5 S5 := by
    have e1 : ByteArray.empty ++ batS (exB 5) = ex5 := ByteArray.empty_append
    rw [e1] at hs5
    exact hs5
  have SD5 := Lib.hid SD5
  clear hok hs5 HAP SD4
  go_wp2_with fail
  refine (sync1 SD5.out a2).mono ?_
  rintro e w6 ⟨rfl, f6, hs6, hf6, -⟩
  have hf : f6 = -1 := by rcases hf6 with h | h <;> exact h
  subst hf
  rw [if_neg (by omega)] at hs6 ⊢
  have SD6 := Lib.hid hs6
  clear hs6 hf6 SD5
  go_wp2_with fail
  refine (simple_walk 6 _).mono ?_
  rintro e w7 ⟨rv7, rfl, hr7, hf7⟩
  have SD7 := Lib.hid (SD6.out.old hf7)
  have hc2 : apCode exS1 (exB 6) 10000 (ex5.size : Int) (-1) = 0 := code0 B6.out (by show (6 : Int) ≤ 6; omega) (by omega) (by have := ex_sizes; show ((ex5.size : Nat) : Int) + (bsz (exB 6) : Nat) ≤ 10000; omega)
  have hap := append1 SD7.out a1 a2 (fun b => w6.heap.size ≤ b) (fun k hk hd => by have := SD6.out.dk.dk.lt hd; omega) (exB 6) rv7 hr7 HST.out (by simp [exS1]) (by have := z5; simp [exS1, sumB]; omega) hw0
  unfold App1Post at hap
  rw [hc2] at hap
  have HAP := Lib.hid hap
  clear hap hc2 hr7 hf7 SD6
  unfold batV at HAP
  unfold batV
  go_wp2_with fail
  refine HAP.out.mono ?_
  rintro e w8 ⟨rfl, hok, -⟩
  obtain ⟨L8, S8, hs8, -⟩ := hok trivial
  have SD8 : SD w w8 sb db mb aS exS2 10000 (ex5 ++ ex6) ex5.size (-1) L8 S8 := hs8
  have SD8 := Lib.hid SD8
  clear hok hs8 HAP SD7
  go_wp2_with fail
  refine (simple_walk 6 _).mono ?_
  rintro e w9 ⟨rv9, rfl, hr9, hf9⟩
  have SD9 := Lib.hid (SD8.out.old hf9)
  have hc3 : apCode exS2 (exB 6) 10000 ((ex5 ++ ex6).size : Int) (-1) = 1 := code1 (by show (6 : Int) < 7; omega)
  have hap := append1 SD9.out a1 a2 (fun b => w8.heap.size ≤ b) (fun k hk hd => by have := SD8.out.dk.dk.lt hd; omega) (exB 6) rv9 hr9 HST.out (by simp [exS2]) (by have := z5; have := z6; simp [exS2, sumB]; omega) hw0
  unfold App1Post at hap
  rw [hc3] at hap
  have HAP := Lib.hid hap
  clear hap hc3 hr9 hf9 SD8
  unfold batV at HAP
  unfold batV
  go_wp2_with fail
  refine HAP.out.mono ?_
  rintro e w10 ⟨rfl, -, hno⟩
  have SD10 := Lib.hid (SD9.out.old (hno (by omega)))
  clear hno HAP SD9
  go_wp2_with fail
  refine (send_walk SD10.out.sg).mono ?_
  rw [exS2_end]
  rintro e w11 ⟨rfl, rfl⟩
  have SD11 := Lib.hid (SD10.out.old ((Fr.same w10).alloc (.cells #[.int .i64 9] 3)))
  have K9 := Lib.hid (show (w10.alloc (.cells #[.int .i64 9] 3)).cell? ⟨w10.heap.size, 0, none⟩ = some (.int .i64 9) from cell_alloc_new _ _ _ 0)
  clear SD10
  go_wp2_with fail
  refine (crash1 SD11.out.dk SD11.out.fr (by unfold maxLen; omega) _ _ 9 K9.out).mono ?_
  rintro e w12 ⟨⟨c, rfl⟩, hd12, hf12, -⟩
  have hcr : crN ex5.size (ex5 ++ ex6).size 9 = ex5.size + 9 := by
    have := ex_sizes
    unfold crN
    rw [ByteArray.size_append]
    omega
  rw [hcr] at hd12
  have D12 : Disk1 w w12 db mb aS 10000 exT exT.size (-1) L8 := hd12
  have D12 := Lib.hid D12
  have F12 := Lib.hid hf12
  clear hd12 hf12 hcr SD11 K9
  go_wp2_with fail
  refine (open1 D12.out F12.out (by omega) a1 a2 5 10 (by omega) (by omega) (by omega) [exB 5] ex5.size exT_scan HST.out (by simp) hw0).mono ?_
  rintro e w13 ⟨tb, S13, f13, rfl, hs13, hff, -, -⟩
  have hf : f13 = -1 := by rcases hff with h | h <;> exact h
  subst hf
  have hs13 : SD w w13 tb db mb aS exS1 10000 (exT.extract 0 ex5.size) (min exT.size ex5.size) (-1) L8 S13 := hs13
  have SD13 := Lib.hid hs13
  clear hs13 hff D12 F12
  go_wp2_with fail
  refine (send_walk SD13.out.sg).mono ?_
  rw [exS1_end]
  rintro e w14 ⟨rfl, rfl⟩
  go_wp2_with fail
  refine (sread_walk SD13.out.sg 0 0).mono ?_
  rintro e w15 ⟨v, rfl, hr15, hf15⟩
  have hp : pick 0 0 exS1.l 0 [] = [exB 5] := pick_ex
  rw [hp] at hr15
  obtain ⟨oa15, cap15, rfl, -⟩ := hr15
  have SD15 := Lib.hid (SD13.out.old hf15)
  clear hp hf15 SD13
  go_wp2_with fail
  refine (ssize_walk SD15.out.sg).mono ?_
  rintro e w16 ⟨rfl, rfl⟩
  go_wp2_with fail
  refine (used_walk SD15.out.dk.dk).mono ?_
  rintro e w17 ⟨rfl, rfl⟩
  have hsz : ((exT.extract 0 ex5.size).size : Int) = (sumB exS1.l : Nat) := by
    have h1 := exT_size
    rw [ByteArray.size_extract]
    simp only [exS1, sumB, List.map_cons, List.map_nil, List.sum_cons, List.sum_nil]
    show ((min ex5.size exT.size - 0 : Nat) : Int) = ((bsz (exB 5) + 0 : Nat) : Int)
    show ((min ex5.size exT.size - 0 : Nat) : Int) = ((ex5.size + 0 : Nat) : Int)
    omega
  rw [hsz]
  clear hsz
  go_wp2_with fail
  go_ret
  exact ⟨rfl, SD15.out.fr⟩
end Go.Proofs.YtgbcdgfpmihkcaaGreatDoor
