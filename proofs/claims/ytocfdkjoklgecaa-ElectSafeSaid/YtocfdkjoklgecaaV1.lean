/- Walks of package view, and of the document's answer for it. -/
import Derived.Test.YtocfdkjoklgecaaV0
import Derived.Test.YtocfdkjoklgecaaRows
namespace Go.Proofs.Ytocfdkjoklgecaa
open Go.K
set_option linter.unusedVariables false
set_option linter.unusedSimpArgs false

instance und3 : Und Try.prog 3 (.int .i64) := ⟨Try.underlying3⟩
instance agg3 : Agg Try.prog 3 false := ⟨⟨_, Try.underlying3, rfl⟩⟩
instance siz3 : Siz Try.prog 3 1 := ⟨by kernel_rfl⟩
instance und4 : Und Try.prog 4 .bool := ⟨Try.underlying4⟩
instance agg4 : Agg Try.prog 4 false := ⟨⟨_, Try.underlying4, rfl⟩⟩
instance siz4 : Siz Try.prog 4 1 := ⟨by kernel_rfl⟩
instance und22 : Und Try.prog 22 (.int .u64) := ⟨Try.underlying22⟩
instance agg22 : Agg Try.prog 22 false := ⟨⟨_, Try.underlying22, rfl⟩⟩
instance siz22 : Siz Try.prog 22 1 := ⟨by kernel_rfl⟩
instance agg24 : Agg Try.prog 24 true := ⟨⟨_, Try.underlying24, rfl⟩⟩
instance siz24 : Siz Try.prog 24 3 := ⟨by kernel_rfl⟩
instance und25 : Und Try.prog 25 (.slice 3) := ⟨Try.underlying25⟩
instance agg25 : Agg Try.prog 25 false := ⟨⟨_, Try.underlying25, rfl⟩⟩
instance siz25 : Siz Try.prog 25 1 := ⟨by kernel_rfl⟩
instance und37 : Und Try.prog 37 (.slice 24) := ⟨Try.underlying37⟩
instance agg37 : Agg Try.prog 37 false := ⟨⟨_, Try.underlying37, rfl⟩⟩
instance siz37 : Siz Try.prog 37 1 := ⟨by kernel_rfl⟩
instance und38 : Und Try.prog 38 (.pointer 63) := ⟨Try.underlying38⟩
instance agg38 : Agg Try.prog 38 false := ⟨⟨_, Try.underlying38, rfl⟩⟩
instance siz38 : Siz Try.prog 38 1 := ⟨by kernel_rfl⟩
instance und44 : Und Try.prog 44 (.array 2 22) := ⟨Try.underlying44⟩
instance agg44 : Agg Try.prog 44 true := ⟨⟨_, Try.underlying44, rfl⟩⟩
instance siz44 : Siz Try.prog 44 2 := ⟨by kernel_rfl⟩
instance agg50 : Agg Try.prog 50 true := ⟨⟨_, Try.underlying50, rfl⟩⟩
instance siz50 : Siz Try.prog 50 34 := ⟨by kernel_rfl⟩
instance agg52 : Agg Try.prog 52 true := ⟨⟨_, Try.underlying52, rfl⟩⟩
instance siz52 : Siz Try.prog 52 41 := ⟨by kernel_rfl⟩
instance agg54 : Agg Try.prog 54 true := ⟨⟨_, Try.underlying54, rfl⟩⟩
instance siz54 : Siz Try.prog 54 3 := ⟨by kernel_rfl⟩
instance agg63 : Agg Try.prog 63 true := ⟨⟨_, Try.underlying63, rfl⟩⟩
instance siz63 : Siz Try.prog 63 3 := ⟨by kernel_rfl⟩
instance und65 : Und Try.prog 65 (.slice 52) := ⟨Try.underlying65⟩
instance agg65 : Agg Try.prog 65 false := ⟨⟨_, Try.underlying65, rfl⟩⟩
instance siz65 : Siz Try.prog 65 1 := ⟨by kernel_rfl⟩
instance zer3 : Zer Try.prog 3 ([.int .i64 0]) := ⟨by kernel_rfl⟩
instance zer24 : Zer Try.prog 24 ([.int .u64 0, .int .i64 0, .int .u64 0]) := ⟨by kernel_rfl⟩
instance zer50 : Zer Try.prog 50 ([.int .u64 0] ++ List.replicate 32 (.int .u8 0) ++ [.int .u32 0]) := ⟨by kernel_rfl⟩
instance zer52 : Zer Try.prog 52 ([.bool false, .bool false, .bool false, .int .u64 0] ++ List.replicate 32 (.int .u8 0) ++ [.int .u32 0, .int .u64 0, .int .u64 0, .int .i64 0, .int .u64 0]) := ⟨by kernel_rfl⟩
instance zer54 : Zer Try.prog 54 ([.int .i64 0, .int .i64 0, .bool false]) := ⟨by kernel_rfl⟩
instance zer63 : Zer Try.prog 63 ([.int .u64 0, .int .i64 0, .int .u64 0]) := ⟨by kernel_rfl⟩
instance fld24_0 : Fld Try.prog 24 0 0 := ⟨⟨_, _, 0, Try.underlying24, rfl, by kernel_rfl, rfl⟩⟩
instance fld24_1 : Fld Try.prog 24 1 1 := ⟨⟨_, _, 0, Try.underlying24, rfl, by kernel_rfl, rfl⟩⟩
instance fld24_2 : Fld Try.prog 24 2 2 := ⟨⟨_, _, 0, Try.underlying24, rfl, by kernel_rfl, rfl⟩⟩
instance fld50_0 : Fld Try.prog 50 0 0 := ⟨⟨_, _, 0, Try.underlying50, rfl, by kernel_rfl, rfl⟩⟩
instance fld52_0 : Fld Try.prog 52 0 0 := ⟨⟨_, _, 0, Try.underlying52, rfl, by kernel_rfl, rfl⟩⟩
instance fld52_1 : Fld Try.prog 52 1 1 := ⟨⟨_, _, 0, Try.underlying52, rfl, by kernel_rfl, rfl⟩⟩
instance fld52_2 : Fld Try.prog 52 2 2 := ⟨⟨_, _, 0, Try.underlying52, rfl, by kernel_rfl, rfl⟩⟩
instance fld52_3 : Fld Try.prog 52 3 3 := ⟨⟨_, _, 33, Try.underlying52, rfl, by kernel_rfl, rfl⟩⟩
instance fld54_0 : Fld Try.prog 54 0 0 := ⟨⟨_, _, 0, Try.underlying54, rfl, by kernel_rfl, rfl⟩⟩
instance fld54_1 : Fld Try.prog 54 1 1 := ⟨⟨_, _, 0, Try.underlying54, rfl, by kernel_rfl, rfl⟩⟩
instance fld54_2 : Fld Try.prog 54 2 2 := ⟨⟨_, _, 0, Try.underlying54, rfl, by kernel_rfl, rfl⟩⟩
instance fld63_0 : Fld Try.prog 63 0 0 := ⟨⟨_, _, 2, Try.underlying63, rfl, by kernel_rfl, rfl⟩⟩
instance plc24 : Plc Try.prog 24 [(0, 1), (1, 1), (2, 1)] := ⟨⟨_, Try.underlying24, fun _ => by kernel_rfl⟩⟩
instance plc50 : Plc Try.prog 50 [(0, 1), (1, 32), (33, 1)] := ⟨⟨_, Try.underlying50, fun _ => by kernel_rfl⟩⟩
instance plc52 : Plc Try.prog 52 [(0, 1), (1, 1), (2, 1), (3, 34), (37, 1), (38, 3)] := ⟨⟨_, Try.underlying52, fun _ => by kernel_rfl⟩⟩
instance plc54 : Plc Try.prog 54 [(0, 1), (1, 1), (2, 1)] := ⟨⟨_, Try.underlying54, fun _ => by kernel_rfl⟩⟩
instance plc63 : Plc Try.prog 63 [(0, 3)] := ⟨⟨_, Try.underlying63, fun _ => by kernel_rfl⟩⟩
instance byt52 : Byt Try.prog 52 88 := ⟨by kernel_rfl⟩
instance flat24 : Flat Try.prog 24 ([some .u64, some .i64, some .u64]) := ⟨by kernel_rfl, by kernel_rfl, ⟨_, Try.underlying24, rfl⟩⟩
instance flat50 : Flat Try.prog 50 ([some .u64] ++ reps 32 ([some .u8]) ++ [some .u32]) := ⟨by kernel_rfl, by kernel_rfl, ⟨_, Try.underlying50, rfl⟩⟩
instance flat54 : Flat Try.prog 54 ([some .i64, some .i64, none]) := ⟨by kernel_rfl, by kernel_rfl, ⟨_, Try.underlying54, rfl⟩⟩
instance ent10 : Ent Try.prog 10 := ⟨fun _ _ => by kernel_rfl⟩
instance ent11 : Ent Try.prog 11 := ⟨fun _ _ => by kernel_rfl⟩
instance ent12 : Ent Try.prog 12 := ⟨fun _ _ => by kernel_rfl⟩
instance ent13 : Ent Try.prog 13 := ⟨fun _ _ => by kernel_rfl⟩
instance ent14 : Ent Try.prog 14 := ⟨fun _ _ => by kernel_rfl⟩
instance ent15 : Ent Try.prog 15 := ⟨fun _ _ => by kernel_rfl⟩
instance ent16 : Ent Try.prog 16 := ⟨fun _ _ => by kernel_rfl⟩
instance ent17 : Ent Try.prog 17 := ⟨fun _ _ => by kernel_rfl⟩
instance ent18 : Ent Try.prog 18 := ⟨fun _ _ => by kernel_rfl⟩
instance ent19 : Ent Try.prog 19 := ⟨fun _ _ => by kernel_rfl⟩
instance ent20 : Ent Try.prog 20 := ⟨fun _ _ => by kernel_rfl⟩
instance ent21 : Ent Try.prog 21 := ⟨fun _ _ => by kernel_rfl⟩
instance ent22 : Ent Try.prog 22 := ⟨fun _ _ => by kernel_rfl⟩
instance ent23 : Ent Try.prog 23 := ⟨fun _ _ => by kernel_rfl⟩
instance ent24 : Ent Try.prog 24 := ⟨fun _ _ => by kernel_rfl⟩
instance ent25 : Ent Try.prog 25 := ⟨fun _ _ => by kernel_rfl⟩
instance ent26 : Ent Try.prog 26 := ⟨fun _ _ => by kernel_rfl⟩
instance ent27 : Ent Try.prog 27 := ⟨fun _ _ => by kernel_rfl⟩
instance ent28 : Ent Try.prog 28 := ⟨fun _ _ => by kernel_rfl⟩
instance ent29 : Ent Try.prog 29 := ⟨fun _ _ => by kernel_rfl⟩
instance ent30 : Ent Try.prog 30 := ⟨fun _ _ => by kernel_rfl⟩
instance wide : Wide Try.prog := ⟨by kernel_rfl⟩

abbrev vc (n m b : Int) : List Value := [.int .u64 n, .int .i64 m, .int .u64 b]
abbrev vv (n m b : Int) : Value := .agg (vc n m b).toArray
abbrev tT : TypeId := 63
def at0 (xs : List Int) (i : Int) : Int := xs.getD i.toNat 0
/-- What a slice's cells read as. -/
def Ints (cs : List Value) (o : Nat) (xs : List Int) : Prop := ∀ i : Int, 0 ≤ i → i < xs.length → nth cs (o + i.toNat * 1) = some (.int .i64 (at0 xs i))
theorem take_succ_at (xs : List Int) (i : Int) (h0 : 0 ≤ i) (h1 : i < xs.length) : xs.take (i + 1).toNat = xs.take i.toNat ++ [at0 xs i] := by
  have e : (i + 1).toNat = i.toNat + 1 := by omega
  have hlt : i.toNat < xs.length := by omega
  rw [e, List.take_succ_eq_append_getElem hlt]
  simp [at0, hlt]

theorem right_fn {n m b : Int} : Does Try.prog 25 [vv n m b] [] (Is (.bool (rightB n m)) []) := by
  refine fn_enter (n := 21) Try.func25 Try.ntmps25 rfl (Nat.le_of_ble_eq_true rfl) ?_
  refine s_seq ?_
  refine s_region0 (fun ops => ?_)
  refine o_box rfl rfl (fun b1 => ?_)
  refine o_rd (rd_assign rfl) rfl ?_
  refine o_nil ?_
  refine n_K ?_
  refine s_seq ?_
  refine s_region [(3, 6), (8, 11), (13, 16)] rfl (fun ops y => ?_)
  refine o_rd (rd_field rfl) rfl ?_
  refine o_rd (rd_ld rfl (by repeat' first | exact List.Mem.head _ | apply List.Mem.tail) rfl) rfl ?_
  refine o_rd (rd_bin rfl rfl rfl) rfl ?_
  refine o_rd (rd_move rfl) rfl ?_
  refine' o_and (j := 3) (k := 3) y rfl rfl rfl rfl rfl rfl rfl (fun hg6 => ?_) ?_
  rotate_left
  · try simp at hg6
    refine o_g y rfl rfl ?_
    refine o_rd (rd_field rfl) rfl ?_
    refine o_g y rfl rfl ?_
    refine o_rd (rd_ld rfl (by repeat' first | exact List.Mem.head _ | apply List.Mem.tail) rfl) rfl ?_
    refine o_g y rfl rfl ?_
    refine o_rd (rd_bin rfl rfl rfl) rfl ?_
    exact o_nil ⟨rfl, rfl, ⟨_, (by repeat (first | exact Split.nil | (apply Split.cons; next => repeat (first | exact Pick.here | apply Pick.there))))⟩⟩
  refine o_rd (rd_move rfl) rfl ?_
  refine' o_and (j := 8) (k := 3) y rfl rfl rfl rfl rfl rfl rfl (fun hg11 => ?_) ?_
  rotate_left
  · try simp at hg11
    refine o_g y rfl rfl ?_
    refine o_rd (rd_field rfl) rfl ?_
    refine o_g y rfl rfl ?_
    refine o_rd (rd_ld rfl (by repeat' first | exact List.Mem.head _ | apply List.Mem.tail) rfl) rfl ?_
    refine o_g y rfl rfl ?_
    refine o_rd (rd_bin rfl rfl rfl) rfl ?_
    exact o_nil ⟨rfl, rfl, ⟨_, (by repeat (first | exact Split.nil | (apply Split.cons; next => repeat (first | exact Pick.here | apply Pick.there))))⟩⟩
  refine o_rd (rd_move rfl) rfl ?_
  refine' o_and (j := 13) (k := 3) y rfl rfl rfl rfl rfl rfl rfl (fun hg16 => ?_) ?_
  rotate_left
  · try simp at hg16
    refine o_g y rfl rfl ?_
    refine o_rd (rd_field rfl) rfl ?_
    refine o_g y rfl rfl ?_
    refine o_rd (rd_ld rfl (by repeat' first | exact List.Mem.head _ | apply List.Mem.tail) rfl) rfl ?_
    refine o_g y rfl rfl ?_
    refine o_rd (rd_bin rfl rfl rfl) rfl ?_
    exact o_nil ⟨rfl, rfl, ⟨_, (by repeat (first | exact Split.nil | (apply Split.cons; next => repeat (first | exact Pick.here | apply Pick.there))))⟩⟩
  refine o_rd (rd_assign rfl) rfl ?_
  refine o_nil ?_
  refine n_K ?_
  refine s_ret ?_
  refine leaf_is (rets1 Try.results25 (rv_tmp rfl)) ?_ (by repeat (first | exact Split.nil | (apply Split.cons; next => repeat (first | exact Pick.here | apply Pick.there))))
  rfl

theorem has_step {m : Int} (xs : List Int) (i : Int) (h0 : 0 ≤ i) (h1 : i < xs.length) (h : hasB m (xs.take i.toNat) = true) (ho : outI m (at0 xs i) = false) : hasB m (xs.take (i + 1).toNat) = true := by
  rw [take_succ_at xs i h0 h1]
  simp only [hasB, List.all_append, List.all_cons, List.all_nil, ho]
  simpa [hasB] using h
theorem has_no {m : Int} (xs : List Int) (i : Int) (h0 : 0 ≤ i) (h1 : i < xs.length) (ho : outI m (at0 xs i) = true) : hasB m xs = false := by
  have hlt : i.toNat < xs.length := by omega
  have hm : at0 xs i ∈ xs := by simp [at0, hlt]
  simp only [hasB, List.all_eq_false]
  exact ⟨_, hm, by simp [ho]⟩

theorem has_fn {n m b : Int} {bl o c : Nat} {r : Bool} {cs : List Value} {T : TypeId} {fr : Nat × Nat} {xs : List Int} (hx : Ints cs o xs) (hl : xs.length ≤ 4611686018427387904) :
    Does Try.prog 14 [vv n m b, .slice (some ⟨bl, o, none⟩) xs.length c] [(bl, r, CF cs T fr)] (Is (.bool (hasB m xs)) [(bl, r, CF cs T fr)]) := by
  refine fn_enter (n := 28) Try.func14 Try.ntmps14 rfl (Nat.le_of_ble_eq_true rfl) ?_
  refine s_seq ?_
  refine s_region0 (fun ops => ?_)
  refine o_box rfl rfl (fun b2 => ?_)
  refine o_rd (rd_assign rfl) rfl ?_
  refine o_nil ?_
  refine n_K ?_
  refine s_seq ?_
  refine s_seq ?_
  refine s_region0 (fun ops => ?_)
  refine o_rd (rd_move rfl) rfl ?_
  refine o_rd (rd_lenS rfl) rfl ?_
  refine o_rd (rd_move rfl) rfl ?_
  refine o_nil ?_
  refine n_K ?_
  refine s_block ?_
  refine s_loop2E [2, 7, 8] (by repeat' first | exact Keep2.nil | apply Keep2.cons rfl) (fun i => [(9, .int .i64 i)]) (fun i => 0 ≤ i ∧ i ≤ xs.length ∧ hasB m (xs.take i.toNat) = true) (fun i => (xs.length - i).toNat) ((0 : Int)) ⟨by omega, by omega, by simp [hasB]⟩ (by repeat' first | exact Keep.nil | refine Keep.cons rfl ?_) ?_
  rintro i ⟨h0, h1, h2⟩
  refine s_seq ?_
  refine s_region0 (fun ops => ?_)
  refine o_rd (rd_bin rfl rfl rfl) rfl ?_
  refine o_nil ?_
  refine n_K ?_
  refine s_seq ?_
  refine s_cond rfl (fun c10 => ?_) (fun c10 => ?_)
  · try simp at c10
    refine s_skip ?_
    refine n_K ?_
    refine s_seq ?_
    refine s_block ?_
    refine s_seq ?_
    refine s_region0 (fun ops => ?_)
    refine o_rd (rd_ixS rfl rfl (by omega)) rfl ?_
    refine o_rd (rd_ld rfl (by repeat' first | exact List.Mem.head _ | apply List.Mem.tail) (hx i h0 c10)) rfl ?_
    refine o_rd (rd_assign rfl) rfl ?_
    refine o_nil ?_
    refine n_K ?_
    refine s_seq ?_
    refine s_region [(2, 15), (6, 19)] rfl (fun ops y => ?_)
    refine o_rd (rd_move rfl) rfl ?_
    refine o_rd (rd_bin rfl rfl rfl) rfl ?_
    refine o_rd (rd_move rfl) rfl ?_
    refine' o_or (j := 2) (k := 2) y rfl rfl rfl rfl rfl rfl rfl (fun hg15 => ?_) ?_
    rotate_left
    · try simp at hg15
      refine o_g y rfl rfl ?_
      refine o_rd (rd_move rfl) rfl ?_
      refine o_g y rfl rfl ?_
      refine o_rd (rd_bin rfl rfl rfl) rfl ?_
      exact o_nil ⟨rfl, rfl, ⟨_, (by repeat (first | exact Split.nil | (apply Split.cons; next => repeat (first | exact Pick.here | apply Pick.there))))⟩⟩
    refine o_rd (rd_move rfl) rfl ?_
    refine' o_or (j := 6) (k := 6) y rfl rfl rfl rfl rfl rfl rfl (fun hg19 => ?_) ?_
    rotate_left
    · try simp at hg19
      refine o_g y rfl rfl ?_
      refine o_rd (rd_field rfl) rfl ?_
      refine o_g y rfl rfl ?_
      refine o_rd (rd_ld rfl (by repeat' first | exact List.Mem.head _ | apply List.Mem.tail) rfl) rfl ?_
      refine o_g y rfl rfl ?_
      refine o_rd (rd_move rfl) rfl ?_
      refine o_g y rfl rfl ?_
      refine o_rd (rd_shr rfl rfl (by omega)) rfl ?_
      refine o_g y rfl rfl ?_
      refine o_rd (rd_bin rfl rfl rfl) rfl ?_
      refine o_g y rfl rfl ?_
      refine o_rd (rd_bin rfl rfl rfl) rfl ?_
      exact o_nil ⟨rfl, rfl, ⟨_, (by repeat (first | exact Split.nil | (apply Split.cons; next => repeat (first | exact Pick.here | apply Pick.there))))⟩⟩
    refine o_nil ?_
    refine n_K ?_
    refine s_cond rfl (fun c26 => ?_) (fun c26 => ?_)
    · skip
      refine s_seq ?_
      refine s_region0 (fun ops => ?_)
      refine o_rd (rd_assign rfl) rfl ?_
      refine o_nil ?_
      refine n_K ?_
      refine s_ret ?_
      refine r_blk ?_
      refine r_K ?_
      refine r_K ?_
      refine r_blk ?_
      refine r_K ?_
      refine leaf_is (rets1 Try.results14 (rv_tmp rfl)) ?_ (by repeat (first | exact Split.nil | (apply Split.cons; next => repeat (first | exact Pick.here | apply Pick.there))))
      rw [has_no xs i h0 c10 c26]
    · skip
      refine s_skip ?_
      refine n_blk ?_
      refine n_K ?_
      refine s_region0 (fun ops => ?_)
      refine o_rd (rd_add64 rfl rfl (by omega)) rfl ?_
      refine o_rd (rd_move rfl) rfl ?_
      refine o_nil ?_
      refine n_K ?_
      exact ⟨i + 1, ⟨by omega, by omega, has_step xs i h0 c10 h2 c26⟩, (by omega), (by repeat' first | exact Keep.nil | refine Keep.cons rfl ?_), (by repeat' first | exact Keep.nil | refine Keep.cons rfl ?_), _, (by repeat (first | exact Split.nil | (apply Split.cons; next => repeat (first | exact Pick.here | apply Pick.there))))⟩
  · try simp at c10
    refine s_exit ?_
    refine x_K ?_
    refine x_K ?_
    refine x_blk ?_
    refine n_K ?_
    refine s_seq ?_
    refine s_region0 (fun ops => ?_)
    refine o_rd (rd_assign rfl) rfl ?_
    refine o_nil ?_
    refine n_K ?_
    refine s_ret ?_
    refine leaf_is (rets1 Try.results14 (rv_tmp rfl)) ?_ (by repeat (first | exact Split.nil | (apply Split.cons; next => repeat (first | exact Pick.here | apply Pick.there))))
    rw [← h2, List.take_of_length_le (by omega)]
theorem has_nil {n m b : Int} {p : Option Addr} {c : Nat} : Does Try.prog 14 [vv n m b, .slice p 0 c] [] (Is (.bool true) []) := by
  refine fn_enter (n := 28) Try.func14 Try.ntmps14 rfl (Nat.le_of_ble_eq_true rfl) ?_
  refine s_seq ?_
  refine s_region0 (fun ops => ?_)
  refine o_box rfl rfl (fun b2 => ?_)
  refine o_rd (rd_assign rfl) rfl ?_
  refine o_nil ?_
  refine n_K ?_
  refine s_seq ?_
  refine s_seq ?_
  refine s_region0 (fun ops => ?_)
  refine o_rd (rd_move rfl) rfl ?_
  refine o_rd (rd_lenS rfl) rfl ?_
  refine o_rd (rd_move rfl) rfl ?_
  refine o_nil ?_
  refine n_K ?_
  refine s_block ?_
  refine s_loop2E [2, 7, 8] (by repeat' first | exact Keep2.nil | apply Keep2.cons rfl) (fun i => [(9, .int .i64 0)]) (fun i => True) (fun i => 0) (()) (by first | trivial | omega | simp) (by repeat' first | exact Keep.nil | refine Keep.cons rfl ?_) ?_
  rintro i _
  refine s_seq ?_
  refine s_region0 (fun ops => ?_)
  refine o_rd (rd_bin rfl rfl rfl) rfl ?_
  refine o_nil ?_
  refine n_K ?_
  refine s_seq ?_
  refine s_cond rfl (fun c10 => ?_) (fun c10 => ?_)
  · skip
    simp at c10
  · skip
    refine s_exit ?_
    refine x_K ?_
    refine x_K ?_
    refine x_blk ?_
    refine n_K ?_
    refine s_seq ?_
    refine s_region0 (fun ops => ?_)
    refine o_rd (rd_assign rfl) rfl ?_
    refine o_nil ?_
    refine n_K ?_
    refine s_ret ?_
    refine leaf_is (rets1 Try.results14 (rv_tmp rfl)) ?_ (by repeat (first | exact Split.nil | (apply Split.cons; next => repeat (first | exact Pick.here | apply Pick.there))))
    rfl
theorem has1_fn {n m b c : Int} {bl : Nat} {r : Bool} {T : TypeId} : Does Try.prog 14 [vv n m b, .slice (some ⟨bl, 0, none⟩) 1 1] [(bl, r, C [.int .i64 c] T)] (Is (.bool (hasB m [c])) [(bl, r, C [.int .i64 c] T)]) :=
  has_fn (xs := [c]) (fun i h0 h1 => by
    have : i = 0 := by simp at h1; omega
    subst this; rfl) (by simp)
theorem has2_fn {n m b c d : Int} {bl : Nat} {r : Bool} {T : TypeId} : Does Try.prog 14 [vv n m b, .slice (some ⟨bl, 0, none⟩) 2 2] [(bl, r, C [.int .i64 c, .int .i64 d] T)] (Is (.bool (hasB m [c, d])) [(bl, r, C [.int .i64 c, .int .i64 d] T)]) :=
  has_fn (xs := [c, d]) (fun i h0 h1 => by
    have : i = 0 ∨ i = 1 := by simp at h1; omega
    rcases this with rfl | rfl <;> rfl) (by simp)

theorem next_fn {n m b ms base : Int} {ok : Bool} : Does Try.prog 24 [vv n m b, .int .i64 ms, .int .u64 base, .bool ok] []
    (Is (.tuple #[vv (nextV ok n m ms base).1 (nextV ok n m ms base).2.1 (nextV ok n m ms base).2.2.1, .int .i64 (nextV ok n m ms base).2.2.2]) []) := by
  refine fn_enter (n := 29) Try.func24 Try.ntmps24 rfl (Nat.le_of_ble_eq_true rfl) ?_
  refine s_seq ?_
  refine s_region0 (fun ops => ?_)
  refine o_box rfl rfl (fun b4 => ?_)
  refine o_alloc rfl (fun b8 => ?_)
  refine o_rd (rd_assign rfl) rfl ?_
  refine o_nil ?_
  refine n_K ?_
  refine s_seq ?_
  refine s_seq ?_
  refine s_region [(2, 12), (7, 17)] rfl (fun ops y => ?_)
  refine o_rd (rd_move rfl) rfl ?_
  refine o_rd (rd_not rfl) rfl ?_
  refine o_rd (rd_move rfl) rfl ?_
  refine' o_or (j := 2) (k := 3) y rfl rfl rfl rfl rfl rfl rfl (fun hg12 => ?_) ?_
  rotate_left
  · try simp at hg12
    refine o_g y rfl rfl ?_
    refine o_rd (rd_ldA rfl (by repeat' first | exact List.Mem.head _ | apply List.Mem.tail) rfl) rfl ?_
    refine o_g y rfl rfl ?_
    refine o_call_is rfl (right_fn) (by repeat (first | exact Split.nil | (apply Split.cons; next => repeat (first | exact Pick.here | apply Pick.there)))) rfl rfl ?_
    refine o_g y rfl rfl ?_
    refine o_rd (rd_not rfl) rfl ?_
    exact o_nil ⟨rfl, rfl, ⟨_, (by repeat (first | exact Split.nil | (apply Split.cons; next => repeat (first | exact Pick.here | apply Pick.there))))⟩⟩
  refine o_rd (rd_move rfl) rfl ?_
  refine' o_or (j := 7) (k := 3) y rfl rfl rfl rfl rfl rfl rfl (fun hg17 => ?_) ?_
  rotate_left
  · try simp at hg17
    refine o_g y rfl rfl ?_
    refine o_rd (rd_field rfl) rfl ?_
    refine o_g y rfl rfl ?_
    refine o_rd (rd_ld rfl (by repeat' first | exact List.Mem.head _ | apply List.Mem.tail) rfl) rfl ?_
    refine o_g y rfl rfl ?_
    refine o_rd (rd_bin rfl rfl rfl) rfl ?_
    exact o_nil ⟨rfl, rfl, ⟨_, (by repeat (first | exact Split.nil | (apply Split.cons; next => repeat (first | exact Pick.here | apply Pick.there))))⟩⟩
  refine o_nil ?_
  refine n_K ?_
  refine s_cond rfl (fun c21 => ?_) (fun c21 => ?_)
  · skip
    refine s_seq ?_
    refine s_region0 (fun ops => ?_)
    refine o_rd (rd_build_s rfl rfl) rfl ?_
    refine o_store rfl rfl (by repeat' first | exact Upd.here | apply Upd.there) rfl rfl rfl ?_
    refine o_rd (rd_assign rfl) rfl ?_
    refine o_nil ?_
    refine n_K ?_
    refine s_ret ?_
    refine r_K ?_
    refine leaf_is (rets2 Try.results24 (rv_cell rfl (by repeat' first | exact List.Mem.head _ | apply List.Mem.tail) rfl) (rv_tmp rfl)) ?_ (by repeat (first | exact Split.nil | (apply Split.cons; next => repeat (first | exact Pick.here | apply Pick.there))))
    rw [show nextV ok n m ms base = (0, 0, 0, 1) from if_pos c21]
  · skip
    refine s_skip ?_
    refine n_K ?_
    refine s_seq ?_
    refine s_region0 (fun ops => ?_)
    refine o_rd (rd_field rfl) rfl ?_
    refine o_rd (rd_ld rfl (by repeat' first | exact List.Mem.head _ | apply List.Mem.tail) rfl) rfl ?_
    refine o_rd (rd_bin rfl rfl rfl) rfl ?_
    refine o_rd (rd_move rfl) rfl ?_
    refine o_rd (rd_move rfl) rfl ?_
    refine o_rd (rd_build_s rfl rfl) rfl ?_
    refine o_store rfl rfl (by repeat' first | exact Upd.here | apply Upd.there) rfl rfl rfl ?_
    refine o_rd (rd_assign rfl) rfl ?_
    refine o_nil ?_
    refine n_K ?_
    refine s_ret ?_
    refine leaf_is (rets2 Try.results24 (rv_cell rfl (by repeat' first | exact List.Mem.head _ | apply List.Mem.tail) rfl) (rv_tmp rfl)) ?_ (by repeat (first | exact Split.nil | (apply Split.cons; next => repeat (first | exact Pick.here | apply Pick.there))))
    rw [show nextV ok n m ms base = (IntKind.u64.wrap (n + 1), ms, base, 0) from if_neg (by rw [show nextB ok n m = false from c21]; exact Bool.false_ne_true)]
theorem shrink_fn {n m b c base : Int} : Does Try.prog 12 [vv n m b, .int .i64 c, .int .u64 base] []
    (Is (.tuple #[vv (shrV n m c base).1 (shrV n m c base).2.1 (shrV n m c base).2.2.1, .int .i64 (shrV n m c base).2.2.2]) []) := by
  refine fn_enter (n := 21) Try.func12 Try.ntmps12 rfl (Nat.le_of_ble_eq_true rfl) ?_
  refine s_seq ?_
  refine s_region0 (fun ops => ?_)
  refine o_box rfl rfl (fun b3 => ?_)
  refine o_alloc rfl (fun b6 => ?_)
  refine o_rd (rd_assign rfl) rfl ?_
  refine o_nil ?_
  refine n_K ?_
  refine s_seq ?_
  refine s_draw [] [(10, [(0, false), (1, false), (2, false), (3, false), (4, false), (5, false), (6, false), (7, false), (8, true), (9, true)]), (13, [(10, true), (11, false), (12, false)]), (14, [(13, true)]), (15, [(14, false)])] (by kernel_rfl) rfl (fun ops w0 H0 y => ?_)
  refine p_all ?_
  refine x_rd (rd_ldA rfl (by repeat' first | exact List.Mem.head _ | apply List.Mem.tail) rfl) rfl ?_
  refine x_rd (rd_move rfl) rfl ?_
  refine x_rd (rd_max rfl rfl) rfl ?_
  refine x_rd (rd_min rfl rfl) rfl ?_
  refine x_rd (rd_shl rfl rfl (by omega)) rfl ?_
  refine x_rd (rd_move rfl) rfl ?_
  refine x_rd (rd_ldA rfl (by repeat' first | exact List.Mem.head _ | apply List.Mem.tail) rfl) rfl ?_
  refine x_rd (rd_move rfl) rfl ?_
  refine x_so ?_
  refine o_bslice_k rfl rfl rfl rfl (fun b16 => ?_)
  refine o_nil ⟨rfl, ⟨_, (by repeat (first | exact Split.nil | (apply Split.cons; next => repeat (first | exact Pick.here | apply Pick.there))))⟩, ?_⟩
  refine x_so ?_
  refine o_call_is rfl (has1_fn) (by repeat (first | exact Split.nil | (apply Split.cons; next => repeat (first | exact Pick.here | apply Pick.there)))) rfl rfl ?_
  refine o_nil ⟨rfl, ⟨_, (by repeat (first | exact Split.nil | (apply Split.cons; next => repeat (first | exact Pick.here | apply Pick.there))))⟩, ?_⟩
  refine x_nil ?_
  refine p_all ?_
  refine x_so ?_
  refine o_call_is rfl (next_fn) (by repeat (first | exact Split.nil | (apply Split.cons; next => repeat (first | exact Pick.here | apply Pick.there)))) rfl rfl ?_
  refine o_nil ⟨rfl, ⟨_, (by repeat (first | exact Split.nil | (apply Split.cons; next => repeat (first | exact Pick.here | apply Pick.there))))⟩, ?_⟩
  refine x_rd (rd_extract rfl rfl) rfl ?_
  refine x_rd (rd_extract rfl rfl) rfl ?_
  refine x_nil ?_
  refine p_none ?_
  refine x_so ?_
  refine o_store rfl rfl (by repeat' first | exact Upd.here | apply Upd.there) rfl rfl rfl ?_
  refine o_nil ⟨rfl, ⟨_, (by repeat (first | exact Split.nil | (apply Split.cons; next => repeat (first | exact Pick.here | apply Pick.there))))⟩, ?_⟩
  refine x_nil ?_
  refine p_all ?_
  refine x_rd (rd_assign rfl) rfl ?_
  refine x_nil ?_
  refine p_end ?_
  refine n_K ?_
  refine s_ret ?_
  refine leaf_is (rets2 Try.results12 (rv_cell rfl (by repeat' first | exact List.Mem.head _ | apply List.Mem.tail) rfl) (rv_tmp rfl)) ?_ (by repeat (first | exact Split.nil | (apply Split.cons; next => repeat (first | exact Pick.here | apply Pick.there))))
  rfl
theorem grow_fn {n m b base : Int} : Does Try.prog 15 [vv n m b, .int .u64 base] []
    (Is (.tuple #[vv (groV n m base).1 (groV n m base).2.1 (groV n m base).2.2.1, .int .i64 (groV n m base).2.2.2]) []) := by
  refine fn_enter (n := 14) Try.func15 Try.ntmps15 rfl (Nat.le_of_ble_eq_true rfl) ?_
  refine s_seq ?_
  refine s_region0 (fun ops => ?_)
  refine o_box rfl rfl (fun b2 => ?_)
  refine o_alloc rfl (fun b4 => ?_)
  refine o_rd (rd_assign rfl) rfl ?_
  refine o_nil ?_
  refine n_K ?_
  refine s_seq ?_
  refine s_region0 (fun ops => ?_)
  refine o_rd (rd_ldA rfl (by repeat' first | exact List.Mem.head _ | apply List.Mem.tail) rfl) rfl ?_
  refine o_rd (rd_move rfl) rfl ?_
  refine o_rd (rd_field rfl) rfl ?_
  refine o_rd (rd_ld rfl (by repeat' first | exact List.Mem.head _ | apply List.Mem.tail) rfl) rfl ?_
  refine o_rd (rd_bin rfl rfl rfl) rfl ?_
  refine o_call_is rfl (next_fn) (by repeat (first | exact Split.nil | (apply Split.cons; next => repeat (first | exact Pick.here | apply Pick.there)))) rfl rfl ?_
  refine o_rd (rd_extract rfl rfl) rfl ?_
  refine o_rd (rd_extract rfl rfl) rfl ?_
  refine o_store rfl rfl (by repeat' first | exact Upd.here | apply Upd.there) rfl rfl rfl ?_
  refine o_rd (rd_assign rfl) rfl ?_
  refine o_nil ?_
  refine n_K ?_
  refine s_ret ?_
  refine leaf_is (rets2 Try.results15 (rv_cell rfl (by repeat' first | exact List.Mem.head _ | apply List.Mem.tail) rfl) (rv_tmp rfl)) ?_ (by repeat (first | exact Split.nil | (apply Split.cons; next => repeat (first | exact Pick.here | apply Pick.there))))
  rfl
theorem newtie_fn : Does Try.prog 17 [] [] (fun v L => ∃ b, v = .pointer (some ⟨b, 0, none⟩) ∧ L = [(b, true, C (vc 0 0 0) tT)]) := by
  refine fn_enter (n := 3) Try.func17 Try.ntmps17 rfl (Nat.le_of_ble_eq_true rfl) ?_
  refine s_seq ?_
  refine s_region0 (fun ops => ?_)
  refine o_rd (rd_assign rfl) rfl ?_
  refine o_nil ?_
  refine n_K ?_
  refine s_seq ?_
  refine s_region0 (fun ops => ?_)
  refine o_rd (rd_build_s rfl rfl) rfl ?_
  refine o_box rfl rfl (fun b2 => ?_)
  refine o_rd (rd_assign rfl) rfl ?_
  refine o_nil ?_
  refine n_K ?_
  refine s_ret ?_
  exact leaf_r (rets1 Try.results17 (rv_tmp rfl)) (by exact ⟨b2, rfl, rfl⟩) (by repeat (first | exact Split.nil | (apply Split.cons; next => repeat (first | exact Pick.here | apply Pick.there))))
theorem get_fn {n m b : Int} {p : Nat} {r : Bool} : Does Try.prog 18 [.pointer (some ⟨p, 0, none⟩)] [(p, r, C (vc n m b) tT)] (Is (vv n m b) [(p, r, C (vc n m b) tT)]) := by
  refine fn_enter (n := 7) Try.func18 Try.ntmps18 rfl (Nat.le_of_ble_eq_true rfl) ?_
  refine s_seq ?_
  refine s_region0 (fun ops => ?_)
  refine o_alloc rfl (fun b2 => ?_)
  refine o_nil ?_
  refine n_K ?_
  refine s_seq ?_
  refine s_region0 (fun ops => ?_)
  refine o_rd (rd_move rfl) rfl ?_
  refine o_rd (rd_nil rfl) rfl ?_
  refine o_rd (rd_field rfl) rfl ?_
  refine o_rd (rd_ldA rfl (by repeat' first | exact List.Mem.head _ | apply List.Mem.tail) rfl) rfl ?_
  refine o_store rfl rfl (by repeat' first | exact Upd.here | apply Upd.there) rfl rfl rfl ?_
  refine o_nil ?_
  refine n_K ?_
  refine s_ret ?_
  refine leaf_is (rets1 Try.results18 (rv_cell rfl (by repeat' first | exact List.Mem.head _ | apply List.Mem.tail) rfl)) ?_ (by repeat (first | exact Split.nil | (apply Split.cons; next => repeat (first | exact Pick.here | apply Pick.there))))
  rfl
theorem set_fn {n m b n0 m0 b0 : Int} {p : Nat} : Does Try.prog 19 [.pointer (some ⟨p, 0, none⟩), vv n m b] [(p, true, C (vc n0 m0 b0) tT)]
    (fun v L => (setB n m n0 = false ∧ v = .int .i64 1 ∧ L = [(p, true, C (vc n0 m0 b0) tT)]) ∨ (setB n m n0 = true ∧ v = .int .i64 0 ∧ L = [(p, true, C (vc n m b) tT)])) := by
  refine fn_enter (n := 22) Try.func19 Try.ntmps19 rfl (Nat.le_of_ble_eq_true rfl) ?_
  refine s_seq ?_
  refine s_region0 (fun ops => ?_)
  refine o_box rfl rfl (fun b3 => ?_)
  refine o_rd (rd_assign rfl) rfl ?_
  refine o_nil ?_
  refine n_K ?_
  refine s_seq ?_
  refine s_seq ?_
  refine s_draw [(3, 8)] [(1, [(0, false)]), (2, [(1, true)]), (13, [(2, false), (3, false), (4, false), (5, false), (6, false), (7, false), (8, false), (9, false), (10, false), (11, false), (12, false)])] (by kernel_rfl) rfl (fun ops w0 H0 y => ?_)
  refine p_all ?_
  refine x_rd (rd_ldA rfl (by repeat' first | exact List.Mem.head _ | apply List.Mem.tail) rfl) rfl ?_
  refine x_nil ?_
  refine p_none ?_
  refine x_so ?_
  refine o_call_is rfl (right_fn) (by repeat (first | exact Split.nil | (apply Split.cons; next => repeat (first | exact Pick.here | apply Pick.there)))) rfl rfl ?_
  refine o_nil ⟨rfl, ⟨_, (by repeat (first | exact Split.nil | (apply Split.cons; next => repeat (first | exact Pick.here | apply Pick.there))))⟩, ?_⟩
  refine x_nil ?_
  refine p_all ?_
  refine x_rd (rd_not rfl) rfl ?_
  refine x_rd (rd_move rfl) rfl ?_
  refine' x_or (j := 3) (k := 8) y rfl rfl rfl rfl rfl rfl rfl (fun hg8 => ?_) ?_
  rotate_left
  · try simp at hg8
    refine x_g y rfl rfl ?_
    refine x_rd (rd_field rfl) rfl ?_
    refine x_g y rfl rfl ?_
    refine x_rd (rd_ld rfl (by repeat' first | exact List.Mem.head _ | apply List.Mem.tail) rfl) rfl ?_
    refine x_g y rfl rfl ?_
    refine x_rd (rd_move rfl) rfl ?_
    refine x_g y rfl rfl ?_
    refine x_rd (rd_nil rfl) rfl ?_
    refine x_g y rfl rfl ?_
    refine x_rd (rd_field rfl) rfl ?_
    refine x_g y rfl rfl ?_
    refine x_rd (rd_field rfl) rfl ?_
    refine x_g y rfl rfl ?_
    refine x_rd (rd_ld rfl (by repeat' first | exact List.Mem.head _ | apply List.Mem.tail) rfl) rfl ?_
    refine x_g y rfl rfl ?_
    refine x_rd (rd_bin rfl rfl rfl) rfl ?_
    exact x_nil ⟨rfl, ⟨_, (by repeat (first | exact Split.nil | (apply Split.cons; next => repeat (first | exact Pick.here | apply Pick.there))))⟩⟩
  refine x_nil ?_
  refine p_end ?_
  refine n_K ?_
  refine s_cond rfl (fun c17 => ?_) (fun c17 => ?_)
  · rw [setB_no] at c17; try simp at c17
    refine s_seq ?_
    refine s_region0 (fun ops => ?_)
    refine o_rd (rd_assign rfl) rfl ?_
    refine o_nil ?_
    refine n_K ?_
    refine s_ret ?_
    refine r_K ?_
    exact leaf_r (rets1 Try.results19 (rv_tmp rfl)) (by exact .inl ⟨c17, rfl, rfl⟩) (by repeat (first | exact Split.nil | (apply Split.cons; next => repeat (first | exact Pick.here | apply Pick.there))))
  · rw [setB_no] at c17; try simp at c17
    refine s_skip ?_
    refine n_K ?_
    refine s_seq ?_
    refine s_region0 (fun ops => ?_)
    refine o_rd (rd_move rfl) rfl ?_
    refine o_rd (rd_ldA rfl (by repeat' first | exact List.Mem.head _ | apply List.Mem.tail) rfl) rfl ?_
    refine o_rd (rd_nil rfl) rfl ?_
    refine o_rd (rd_field rfl) rfl ?_
    refine o_store rfl rfl (by repeat' first | exact Upd.here | apply Upd.there) rfl rfl rfl ?_
    refine o_nil ?_
    refine n_K ?_
    refine s_seq ?_
    refine s_region0 (fun ops => ?_)
    refine o_rd (rd_assign rfl) rfl ?_
    refine o_nil ?_
    refine n_K ?_
    refine s_ret ?_
    exact leaf_r (rets1 Try.results19 (rv_tmp rfl)) (by exact .inr ⟨c17, rfl, rfl⟩) (by repeat (first | exact Split.nil | (apply Split.cons; next => repeat (first | exact Pick.here | apply Pick.there))))
theorem setok_fn {n m b n0 m0 b0 : Int} {p : Nat} (h : setB n m n0 = true) : Does Try.prog 19 [.pointer (some ⟨p, 0, none⟩), vv n m b] [(p, true, C (vc n0 m0 b0) tT)] (Is (.int .i64 0) [(p, true, C (vc n m b) tT)]) :=
  set_fn.mono fun v L hh => by rcases hh with ⟨h1, _⟩ | ⟨_, h2, h3⟩; (rw [h] at h1; cases h1); exact ⟨h2, h3⟩
theorem setno_fn {n m b n0 m0 b0 : Int} {p : Nat} (h : setB n m n0 = false) : Does Try.prog 19 [.pointer (some ⟨p, 0, none⟩), vv n m b] [(p, true, C (vc n0 m0 b0) tT)] (Is (.int .i64 1) [(p, true, C (vc n0 m0 b0) tT)]) :=
  set_fn.mono fun v L hh => by rcases hh with ⟨_, h2, h3⟩ | ⟨h1, _⟩; exact ⟨h2, h3⟩; (rw [h] at h1; cases h1)

/-! the document's answer -/
theorem rhas_fn {n m b c : Int} : Does Try.prog 11 [vv n m b, .int .i64 c] [] (Is (.bool (!outI m c)) []) := by
  refine fn_enter (n := 19) Try.func11 Try.ntmps11 rfl (Nat.le_of_ble_eq_true rfl) ?_
  refine s_seq ?_
  refine s_region0 (fun ops => ?_)
  refine o_box rfl rfl (fun b2 => ?_)
  refine o_rd (rd_assign rfl) rfl ?_
  refine o_nil ?_
  refine n_K ?_
  refine s_seq ?_
  refine s_seq ?_
  refine s_region0 (fun ops => ?_)
  refine o_rd (rd_move rfl) rfl ?_
  refine o_rd (rd_bin rfl rfl rfl) rfl ?_
  refine o_nil ?_
  refine n_K ?_
  refine s_cond rfl (fun c6 => ?_) (fun c6 => ?_)
  · try simp at c6
    refine s_seq ?_
    refine s_region0 (fun ops => ?_)
    refine o_rd (rd_field rfl) rfl ?_
    refine o_rd (rd_ld rfl (by repeat' first | exact List.Mem.head _ | apply List.Mem.tail) rfl) rfl ?_
    refine o_rd (rd_bin rfl rfl rfl) rfl ?_
    refine o_rd (rd_bin rfl rfl rfl) rfl ?_
    refine o_rd (rd_assign rfl) rfl ?_
    refine o_nil ?_
    refine n_K ?_
    refine s_ret ?_
    refine r_K ?_
    refine leaf_is (rets1 Try.results11 (rv_tmp rfl)) ?_ (by repeat (first | exact Split.nil | (apply Split.cons; next => repeat (first | exact Pick.here | apply Pick.there))))
    rw [← refHas_eq]; simp [refHas, c6]
  · try simp at c6
    refine s_skip ?_
    refine n_K ?_
    refine s_seq ?_
    refine s_region [(2, 13)] rfl (fun ops y => ?_)
    refine o_rd (rd_move rfl) rfl ?_
    refine o_rd (rd_bin rfl rfl rfl) rfl ?_
    refine o_rd (rd_move rfl) rfl ?_
    refine' o_and (j := 2) (k := 4) y rfl rfl rfl rfl rfl rfl rfl (fun hg13 => ?_) ?_
    rotate_left
    · try simp at hg13
      refine o_g y rfl rfl ?_
      refine o_rd (rd_field rfl) rfl ?_
      refine o_g y rfl rfl ?_
      refine o_rd (rd_ld rfl (by repeat' first | exact List.Mem.head _ | apply List.Mem.tail) rfl) rfl ?_
      refine o_g y rfl rfl ?_
      refine o_rd (rd_bin rfl rfl rfl) rfl ?_
      refine o_g y rfl rfl ?_
      refine o_rd (rd_bin rfl rfl rfl) rfl ?_
      exact o_nil ⟨rfl, rfl, ⟨_, (by repeat (first | exact Split.nil | (apply Split.cons; next => repeat (first | exact Pick.here | apply Pick.there))))⟩⟩
    refine o_rd (rd_assign rfl) rfl ?_
    refine o_nil ?_
    refine n_K ?_
    refine s_ret ?_
    refine leaf_is (rets1 Try.results11 (rv_tmp rfl)) ?_ (by repeat (first | exact Split.nil | (apply Split.cons; next => repeat (first | exact Pick.here | apply Pick.there))))
    rw [← refHas_eq]; simp [refHas, c6]
theorem rright_fn {n m b : Int} : Does Try.prog 20 [vv n m b] [] (Is (.bool (rightB n m)) []) := by
  refine fn_enter (n := 26) Try.func20 Try.ntmps20 rfl (Nat.le_of_ble_eq_true rfl) ?_
  refine s_seq ?_
  refine s_region0 (fun ops => ?_)
  refine o_box rfl rfl (fun b1 => ?_)
  refine o_rd (rd_assign rfl) rfl ?_
  refine o_nil ?_
  refine n_K ?_
  refine s_seq ?_
  refine s_region [(3, 6), (8, 11), (12, 15), (17, 20)] rfl (fun ops y => ?_)
  refine o_rd (rd_field rfl) rfl ?_
  refine o_rd (rd_ld rfl (by repeat' first | exact List.Mem.head _ | apply List.Mem.tail) rfl) rfl ?_
  refine o_rd (rd_bin rfl rfl rfl) rfl ?_
  refine o_rd (rd_move rfl) rfl ?_
  refine' o_and (j := 3) (k := 3) y rfl rfl rfl rfl rfl rfl rfl (fun hg6 => ?_) ?_
  rotate_left
  · try simp at hg6
    refine o_g y rfl rfl ?_
    refine o_rd (rd_field rfl) rfl ?_
    refine o_g y rfl rfl ?_
    refine o_rd (rd_ld rfl (by repeat' first | exact List.Mem.head _ | apply List.Mem.tail) rfl) rfl ?_
    refine o_g y rfl rfl ?_
    refine o_rd (rd_bin rfl rfl rfl) rfl ?_
    exact o_nil ⟨rfl, rfl, ⟨_, (by repeat (first | exact Split.nil | (apply Split.cons; next => repeat (first | exact Pick.here | apply Pick.there))))⟩⟩
  refine o_rd (rd_move rfl) rfl ?_
  refine' o_and (j := 8) (k := 13) y rfl rfl rfl rfl rfl rfl rfl (fun hg11 => ?_) ?_
  rotate_left
  · try simp at hg11
    refine o_g y rfl rfl ?_
    refine o_rd (rd_field rfl) rfl ?_
    refine o_g y rfl rfl ?_
    refine o_rd (rd_ld rfl (by repeat' first | exact List.Mem.head _ | apply List.Mem.tail) rfl) rfl ?_
    refine o_g y rfl rfl ?_
    refine o_rd (rd_bin rfl rfl rfl) rfl ?_
    refine o_g y rfl rfl ?_
    refine o_rd (rd_move rfl) rfl ?_
    refine' o_or (j := 12) (k := 3) y rfl rfl rfl rfl rfl rfl rfl (fun hg15 => ?_) ?_
    rotate_left
    · try simp at hg15
      refine o_g y rfl rfl ?_
      refine o_rd (rd_field rfl) rfl ?_
      refine o_g y rfl rfl ?_
      refine o_rd (rd_ld rfl (by repeat' first | exact List.Mem.head _ | apply List.Mem.tail) rfl) rfl ?_
      refine o_g y rfl rfl ?_
      refine o_rd (rd_bin rfl rfl rfl) rfl ?_
      exact o_nil ⟨rfl, rfl, ⟨_, (by repeat (first | exact Split.nil | (apply Split.cons; next => repeat (first | exact Pick.here | apply Pick.there))))⟩⟩
    refine o_g y rfl rfl ?_
    refine o_rd (rd_move rfl) rfl ?_
    refine' o_or (j := 17) (k := 3) y rfl rfl rfl rfl rfl rfl rfl (fun hg20 => ?_) ?_
    rotate_left
    · try simp at hg20
      refine o_g y rfl rfl ?_
      refine o_rd (rd_field rfl) rfl ?_
      refine o_g y rfl rfl ?_
      refine o_rd (rd_ld rfl (by repeat' first | exact List.Mem.head _ | apply List.Mem.tail) rfl) rfl ?_
      refine o_g y rfl rfl ?_
      refine o_rd (rd_bin rfl rfl rfl) rfl ?_
      exact o_nil ⟨rfl, rfl, ⟨_, (by repeat (first | exact Split.nil | (apply Split.cons; next => repeat (first | exact Pick.here | apply Pick.there))))⟩⟩
    exact o_nil ⟨rfl, rfl, ⟨_, (by repeat (first | exact Split.nil | (apply Split.cons; next => repeat (first | exact Pick.here | apply Pick.there))))⟩⟩
  refine o_rd (rd_assign rfl) rfl ?_
  refine o_nil ?_
  refine n_K ?_
  refine s_ret ?_
  refine leaf_is (rets1 Try.results20 (rv_tmp rfl)) ?_ (by repeat (first | exact Split.nil | (apply Split.cons; next => repeat (first | exact Pick.here | apply Pick.there))))
  rw [← refRight_eq]; rfl
theorem rshrink_fn {n m b c base : Int} : Does Try.prog 13 [vv n m b, .int .i64 c, .int .u64 base] []
    (Is (.tuple #[vv (shrV n m c base).1 (shrV n m c base).2.1 (shrV n m c base).2.2.1, .int .i64 (shrV n m c base).2.2.2]) []) := by
  refine fn_enter (n := 30) Try.func13 Try.ntmps13 rfl (Nat.le_of_ble_eq_true rfl) ?_
  refine s_seq ?_
  refine s_region0 (fun ops => ?_)
  refine o_box rfl rfl (fun b3 => ?_)
  refine o_alloc rfl (fun b6 => ?_)
  refine o_rd (rd_assign rfl) rfl ?_
  refine o_nil ?_
  refine n_K ?_
  refine s_seq ?_
  refine s_seq ?_
  refine s_region [(3, 11), (8, 16)] rfl (fun ops y => ?_)
  refine o_rd (rd_ldA rfl (by repeat' first | exact List.Mem.head _ | apply List.Mem.tail) rfl) rfl ?_
  refine o_call_is rfl (rright_fn) (by repeat (first | exact Split.nil | (apply Split.cons; next => repeat (first | exact Pick.here | apply Pick.there)))) rfl rfl ?_
  refine o_rd (rd_not rfl) rfl ?_
  refine o_rd (rd_move rfl) rfl ?_
  refine' o_or (j := 3) (k := 3) y rfl rfl rfl rfl rfl rfl rfl (fun hg11 => ?_) ?_
  rotate_left
  · try simp at hg11
    refine o_g y rfl rfl ?_
    refine o_rd (rd_field rfl) rfl ?_
    refine o_g y rfl rfl ?_
    refine o_rd (rd_ld rfl (by repeat' first | exact List.Mem.head _ | apply List.Mem.tail) rfl) rfl ?_
    refine o_g y rfl rfl ?_
    refine o_rd (rd_bin rfl rfl rfl) rfl ?_
    exact o_nil ⟨rfl, rfl, ⟨_, (by repeat (first | exact Split.nil | (apply Split.cons; next => repeat (first | exact Pick.here | apply Pick.there))))⟩⟩
  refine o_rd (rd_move rfl) rfl ?_
  refine' o_or (j := 8) (k := 4) y rfl rfl rfl rfl rfl rfl rfl (fun hg16 => ?_) ?_
  rotate_left
  · try simp at hg16
    refine o_g y rfl rfl ?_
    refine o_rd (rd_ldA rfl (by repeat' first | exact List.Mem.head _ | apply List.Mem.tail) rfl) rfl ?_
    refine o_g y rfl rfl ?_
    refine o_rd (rd_move rfl) rfl ?_
    refine o_g y rfl rfl ?_
    refine o_call_is rfl (rhas_fn) (by repeat (first | exact Split.nil | (apply Split.cons; next => repeat (first | exact Pick.here | apply Pick.there)))) rfl rfl ?_
    refine o_g y rfl rfl ?_
    refine o_rd (rd_not rfl) rfl ?_
    exact o_nil ⟨rfl, rfl, ⟨_, (by repeat (first | exact Split.nil | (apply Split.cons; next => repeat (first | exact Pick.here | apply Pick.there))))⟩⟩
  refine o_nil ?_
  refine n_K ?_
  refine s_cond rfl (fun c21 => ?_) (fun c21 => ?_)
  · skip
    refine s_seq ?_
    refine s_region0 (fun ops => ?_)
    refine o_rd (rd_build_s rfl rfl) rfl ?_
    refine o_store rfl rfl (by repeat' first | exact Upd.here | apply Upd.there) rfl rfl rfl ?_
    refine o_rd (rd_assign rfl) rfl ?_
    refine o_nil ?_
    refine n_K ?_
    refine s_ret ?_
    refine r_K ?_
    refine leaf_is (rets2 Try.results13 (rv_cell rfl (by repeat' first | exact List.Mem.head _ | apply List.Mem.tail) rfl) (rv_tmp rfl)) ?_ (by repeat (first | exact Split.nil | (apply Split.cons; next => repeat (first | exact Pick.here | apply Pick.there))))
    rw [show shrV n m c base = (0, 0, 0, 1) from if_pos (by rw [← refShrB_eq, refShrB, refRight_eq, refHas_eq]; exact c21)]
  · skip
    refine s_skip ?_
    refine n_K ?_
    refine s_seq ?_
    refine s_region0 (fun ops => ?_)
    refine o_rd (rd_field rfl) rfl ?_
    refine o_rd (rd_ld rfl (by repeat' first | exact List.Mem.head _ | apply List.Mem.tail) rfl) rfl ?_
    refine o_rd (rd_bin rfl rfl rfl) rfl ?_
    refine o_rd (rd_move rfl) rfl ?_
    refine o_rd (rd_bin rfl rfl rfl) rfl ?_
    refine o_rd (rd_move rfl) rfl ?_
    refine o_rd (rd_build_s rfl rfl) rfl ?_
    refine o_store rfl rfl (by repeat' first | exact Upd.here | apply Upd.there) rfl rfl rfl ?_
    refine o_rd (rd_assign rfl) rfl ?_
    refine o_nil ?_
    refine n_K ?_
    refine s_ret ?_
    refine leaf_is (rets2 Try.results13 (rv_cell rfl (by repeat' first | exact List.Mem.head _ | apply List.Mem.tail) rfl) (rv_tmp rfl)) ?_ (by repeat (first | exact Split.nil | (apply Split.cons; next => repeat (first | exact Pick.here | apply Pick.there))))
    rw [rshr_no c21]
theorem rgrow_fn {n m b base : Int} : Does Try.prog 16 [vv n m b, .int .u64 base] []
    (Is (.tuple #[vv (groV n m base).1 (groV n m base).2.1 (groV n m base).2.2.1, .int .i64 (groV n m base).2.2.2]) []) := by
  refine fn_enter (n := 25) Try.func16 Try.ntmps16 rfl (Nat.le_of_ble_eq_true rfl) ?_
  refine s_seq ?_
  refine s_region0 (fun ops => ?_)
  refine o_box rfl rfl (fun b2 => ?_)
  refine o_alloc rfl (fun b4 => ?_)
  refine o_rd (rd_assign rfl) rfl ?_
  refine o_nil ?_
  refine n_K ?_
  refine s_seq ?_
  refine s_seq ?_
  refine s_region [(3, 9), (8, 14)] rfl (fun ops y => ?_)
  refine o_rd (rd_ldA rfl (by repeat' first | exact List.Mem.head _ | apply List.Mem.tail) rfl) rfl ?_
  refine o_call_is rfl (rright_fn) (by repeat (first | exact Split.nil | (apply Split.cons; next => repeat (first | exact Pick.here | apply Pick.there)))) rfl rfl ?_
  refine o_rd (rd_not rfl) rfl ?_
  refine o_rd (rd_move rfl) rfl ?_
  refine' o_or (j := 3) (k := 3) y rfl rfl rfl rfl rfl rfl rfl (fun hg9 => ?_) ?_
  rotate_left
  · try simp at hg9
    refine o_g y rfl rfl ?_
    refine o_rd (rd_field rfl) rfl ?_
    refine o_g y rfl rfl ?_
    refine o_rd (rd_ld rfl (by repeat' first | exact List.Mem.head _ | apply List.Mem.tail) rfl) rfl ?_
    refine o_g y rfl rfl ?_
    refine o_rd (rd_bin rfl rfl rfl) rfl ?_
    exact o_nil ⟨rfl, rfl, ⟨_, (by repeat (first | exact Split.nil | (apply Split.cons; next => repeat (first | exact Pick.here | apply Pick.there))))⟩⟩
  refine o_rd (rd_move rfl) rfl ?_
  refine' o_or (j := 8) (k := 3) y rfl rfl rfl rfl rfl rfl rfl (fun hg14 => ?_) ?_
  rotate_left
  · try simp at hg14
    refine o_g y rfl rfl ?_
    refine o_rd (rd_field rfl) rfl ?_
    refine o_g y rfl rfl ?_
    refine o_rd (rd_ld rfl (by repeat' first | exact List.Mem.head _ | apply List.Mem.tail) rfl) rfl ?_
    refine o_g y rfl rfl ?_
    refine o_rd (rd_bin rfl rfl rfl) rfl ?_
    exact o_nil ⟨rfl, rfl, ⟨_, (by repeat (first | exact Split.nil | (apply Split.cons; next => repeat (first | exact Pick.here | apply Pick.there))))⟩⟩
  refine o_nil ?_
  refine n_K ?_
  refine s_cond rfl (fun c18 => ?_) (fun c18 => ?_)
  · skip
    refine s_seq ?_
    refine s_region0 (fun ops => ?_)
    refine o_rd (rd_build_s rfl rfl) rfl ?_
    refine o_store rfl rfl (by repeat' first | exact Upd.here | apply Upd.there) rfl rfl rfl ?_
    refine o_rd (rd_assign rfl) rfl ?_
    refine o_nil ?_
    refine n_K ?_
    refine s_ret ?_
    refine r_K ?_
    refine leaf_is (rets2 Try.results16 (rv_cell rfl (by repeat' first | exact List.Mem.head _ | apply List.Mem.tail) rfl) (rv_tmp rfl)) ?_ (by repeat (first | exact Split.nil | (apply Split.cons; next => repeat (first | exact Pick.here | apply Pick.there))))
    rw [show groV n m base = (0, 0, 0, 1) from if_pos (by rw [← refGroB_eq, refGroB, refRight_eq]; exact c18)]
  · skip
    refine s_skip ?_
    refine n_K ?_
    refine s_seq ?_
    refine s_region0 (fun ops => ?_)
    refine o_rd (rd_field rfl) rfl ?_
    refine o_rd (rd_ld rfl (by repeat' first | exact List.Mem.head _ | apply List.Mem.tail) rfl) rfl ?_
    refine o_rd (rd_bin rfl rfl rfl) rfl ?_
    refine o_rd (rd_move rfl) rfl ?_
    refine o_rd (rd_build_s rfl rfl) rfl ?_
    refine o_store rfl rfl (by repeat' first | exact Upd.here | apply Upd.there) rfl rfl rfl ?_
    refine o_rd (rd_assign rfl) rfl ?_
    refine o_nil ?_
    refine n_K ?_
    refine s_ret ?_
    refine leaf_is (rets2 Try.results16 (rv_cell rfl (by repeat' first | exact List.Mem.head _ | apply List.Mem.tail) rfl) (rv_tmp rfl)) ?_ (by repeat (first | exact Split.nil | (apply Split.cons; next => repeat (first | exact Pick.here | apply Pick.there))))
    rw [rgro_no c18]
end Go.Proofs.Ytocfdkjoklgecaa
