/- The walks of the functions that the laws reach: each shows that a call returns what its plain model says, wherever the model gives an answer. -/
import Derived.Test.YtefbjefmclhhjaaDoorF1

namespace Go.Proofs.YtefbjefmclhhjaaDoor
open Go Eng
set_option linter.unusedVariables false
set_option linter.unusedSimpArgs false

/-! ### errors.As: function 45 -/
def errors_As_1.f (a0 : ByteArray) (a0_1 : Int) (a1 : Int) : Option (Bool × Int) :=
  (errors_as_1.f a0 a0_1 a1).bind fun (r2, r3) =>
  some (r2, r3)

set_option maxRecDepth 100000 in
theorem errors_As_1_calls (b_0 : Nat) (a0 : ByteArray) (a0_1 : Int) (a1 : Int) (r : Bool × Int) (h : errors_As_1.f a0 a0_1 a1 = some r) : Does Tryd.prog 45 #[.iface 91 (.agg #[.string a0, .iface 27 (.int .i64 a0_1)]), .iface 80 (.pointer (some ⟨b_0, 0, none⟩))] [(b_0, .cells #[.int .i64 a1] 27 (0, 0))] Glob (fun _ : Unit => .bool r.1) (fun _ => [(b_0, .cells #[.int .i64 r.2] 27 (0, 0))]) (fun _ => []) (fun _ => Glob) := by
  intro w Z hS
  refine calls_of (args := [.iface 91 (.agg #[.string a0, .iface 27 (.int .i64 a0_1)]), .iface 80 (.pointer (some ⟨b_0, 0, none⟩))]) (L := [(0, .iface 91 (.agg #[.string a0, .iface 27 (.int .i64 a0_1)])), (1, .iface 80 (.pointer (some ⟨b_0, 0, none⟩)))]) (N := 42) (S := Sat w Z [(b_0, .cells #[.int .i64 a1] 27 (0, 0))] [] Glob) Tryd.func45 rfl rfl (Nat.le_of_ble_eq_true rfl) rfl hS ?_
  have hM := h
  clear h hS
  unfold errors_As_1.f at hM
  refine WP.seq ?_
  refine WP.run [] [0, 1, 4] (fun _ => [(0, .iface 91 (.agg #[.string a0, .iface 27 (.int .i64 a0_1)])), (1, .iface 80 (.pointer (some ⟨b_0, 0, none⟩))), (4, .bool false)]) (fun _ => [(b_0, .cells #[.int .i64 a1] 27 (0, 0))]) (fun _ => []) (fun _ => by kernel_rfl) (fun _ => ?_)
  refine WP.seq ?_
  refine WP.seq ?_
  refine WP.run [] [0, 1, 4, 9] (fun _ => [(0, .iface 91 (.agg #[.string a0, .iface 27 (.int .i64 a0_1)])), (1, .iface 80 (.pointer (some ⟨b_0, 0, none⟩))), (4, .bool false), (9, .bool false)]) (fun _ => [(b_0, .cells #[.int .i64 a1] 27 (0, 0))]) (fun _ => []) (fun _ => by kernel_rfl) (fun _ => ?_)
  refine WP.no rfl rfl ?_
  refine WP.skip ?_
  refine WP.seq ?_
  refine WP.seq ?_
  refine WP.run [] [0, 1, 4, 11] (fun _ => [(0, .iface 91 (.agg #[.string a0, .iface 27 (.int .i64 a0_1)])), (1, .iface 80 (.pointer (some ⟨b_0, 0, none⟩))), (4, .bool false), (11, .bool false)]) (fun _ => [(b_0, .cells #[.int .i64 a1] 27 (0, 0))]) (fun _ => []) (fun _ => by kernel_rfl) (fun _ => ?_)
  refine WP.no rfl rfl ?_
  refine WP.skip ?_
  refine WP.seq ?_
  refine WP.run [2, 2, 2] [0, 1, 4, 5] (fun b1 => [(0, .iface 91 (.agg #[.string a0, .iface 27 (.int .i64 a0_1)])), (1, .iface 80 (.pointer (some ⟨b_0, 0, none⟩))), (4, .bool false), (5, .pointer (some ⟨(b1 + 1), 0, none⟩))]) (fun b1 => [(b_0, .cells #[.int .i64 a1] 27 (0, 0)), (b1, .cells #[.pointer (some ⟨b_0, 0, none⟩)] 80 (0, 0)), ((b1 + 1), .cells #[.pointer (some ⟨1, 80, none⟩), .pointer (some ⟨b1, 0, none⟩), .int .u64 150] 106 (0, 0))]) (fun b1 => [(b1 + 1), (b1 + 1), (b1 + 1)]) (fun b1 => by kernel_rfl) (fun b1 => ?_)
  refine WP.seq ?_
  refine WP.run [2, 2, 2] [0, 1, 4, 5, 6] (fun _ => [(0, .iface 91 (.agg #[.string a0, .iface 27 (.int .i64 a0_1)])), (1, .iface 80 (.pointer (some ⟨b_0, 0, none⟩))), (4, .bool false), (5, .pointer (some ⟨(b1 + 1), 0, none⟩)), (6, .iface 93 (.agg #[.pointer (some ⟨1, 80, none⟩)]))]) (fun _ => [(b_0, .cells #[.int .i64 a1] 27 (0, 0)), (b1, .cells #[.pointer (some ⟨b_0, 0, none⟩)] 80 (0, 0)), ((b1 + 1), .cells #[.pointer (some ⟨1, 80, none⟩), .pointer (some ⟨b1, 0, none⟩), .int .u64 150] 106 (0, 0))]) (fun _ => [(b1 + 1), (b1 + 1), (b1 + 1)]) (fun _ => by kernel_rfl) (fun _ => ?_)
  refine WP.seq ?_
  refine WP.seq ?_
  refine WP.run [2, 2, 2, 1] [0, 1, 4, 5, 6, 23] (fun _ => [(0, .iface 91 (.agg #[.string a0, .iface 27 (.int .i64 a0_1)])), (1, .iface 80 (.pointer (some ⟨b_0, 0, none⟩))), (4, .bool false), (5, .pointer (some ⟨(b1 + 1), 0, none⟩)), (6, .iface 93 (.agg #[.pointer (some ⟨1, 80, none⟩)])), (23, .bool false)]) (fun _ => [(b_0, .cells #[.int .i64 a1] 27 (0, 0)), (b1, .cells #[.pointer (some ⟨b_0, 0, none⟩)] 80 (0, 0)), ((b1 + 1), .cells #[.pointer (some ⟨1, 80, none⟩), .pointer (some ⟨b1, 0, none⟩), .int .u64 150] 106 (0, 0))]) (fun _ => [b1, (b1 + 1), (b1 + 1), (b1 + 1)]) (fun _ => by kernel_rfl) (fun _ => ?_)
  refine WP.no rfl rfl ?_
  refine WP.skip ?_
  refine WP.seq ?_
  refine WP.run [] [0, 1, 4, 5, 7] (fun _ => [(0, .iface 91 (.agg #[.string a0, .iface 27 (.int .i64 a0_1)])), (1, .iface 80 (.pointer (some ⟨b_0, 0, none⟩))), (4, .bool false), (5, .pointer (some ⟨(b1 + 1), 0, none⟩)), (7, .iface 93 (.agg #[.pointer (some ⟨1, 27, none⟩)]))]) (fun _ => [(b_0, .cells #[.int .i64 a1] 27 (0, 0)), (b1, .cells #[.pointer (some ⟨b_0, 0, none⟩)] 80 (0, 0)), ((b1 + 1), .cells #[.pointer (some ⟨1, 80, none⟩), .pointer (some ⟨b1, 0, none⟩), .int .u64 150] 106 (0, 0))]) (fun _ => []) (fun _ => by kernel_rfl) (fun _ => ?_)
  refine WP.seq ?_
  refine WP.seq ?_
  refine WP.region ?_
  refine WL.run 5 [] [0, 1, 4, 5, 7, 30, 31] (fun _ => [(0, .iface 91 (.agg #[.string a0, .iface 27 (.int .i64 a0_1)])), (1, .iface 80 (.pointer (some ⟨b_0, 0, none⟩))), (4, .bool false), (5, .pointer (some ⟨(b1 + 1), 0, none⟩)), (7, .iface 93 (.agg #[.pointer (some ⟨1, 27, none⟩)])), (30, .bool true), (31, .iface 93 (.agg #[.pointer (some ⟨1, 27, none⟩)]))]) (fun _ => [(b_0, .cells #[.int .i64 a1] 27 (0, 0)), (b1, .cells #[.pointer (some ⟨b_0, 0, none⟩)] 80 (0, 0)), ((b1 + 1), .cells #[.pointer (some ⟨1, 80, none⟩), .pointer (some ⟨b1, 0, none⟩), .int .u64 150] 106 (0, 0))]) (fun _ => []) (fun _ => by kernel_rfl) (fun _ => ?_)
  refine WL.loadGlob (v := .iface 93 (.agg #[.pointer (some ⟨1, 52, none⟩)])) (by simp [Glob]) (fun _ => by kernel_rfl) (by kernel_rfl) rfl ?_
  refine WL.run 3 [] [0, 1, 4, 5, 7, 35] (fun _ => [(0, .iface 91 (.agg #[.string a0, .iface 27 (.int .i64 a0_1)])), (1, .iface 80 (.pointer (some ⟨b_0, 0, none⟩))), (4, .bool false), (5, .pointer (some ⟨(b1 + 1), 0, none⟩)), (7, .iface 93 (.agg #[.pointer (some ⟨1, 27, none⟩)])), (35, .bool false)]) (fun _ => [(b_0, .cells #[.int .i64 a1] 27 (0, 0)), (b1, .cells #[.pointer (some ⟨b_0, 0, none⟩)] 80 (0, 0)), ((b1 + 1), .cells #[.pointer (some ⟨1, 80, none⟩), .pointer (some ⟨b1, 0, none⟩), .int .u64 150] 106 (0, 0))]) (fun _ => []) (fun _ => by kernel_rfl) (fun _ => ?_)
  refine WP.done ?_
  refine WP.no rfl rfl ?_
  refine WP.skip ?_
  refine WP.seq ?_
  refine WP.region ?_
  refine WL.run 4 [2, 2, 2] [4, 37, 38, 39, 40] (fun _ => [(4, .bool false), (37, .iface 91 (.agg #[.string a0, .iface 27 (.int .i64 a0_1)])), (38, .iface 80 (.pointer (some ⟨b_0, 0, none⟩))), (39, .agg #[.pointer (some ⟨1, 80, none⟩), .pointer (some ⟨b1, 0, none⟩), .int .u64 150]), (40, .iface 93 (.agg #[.pointer (some ⟨1, 27, none⟩)]))]) (fun _ => [(b_0, .cells #[.int .i64 a1] 27 (0, 0)), (b1, .cells #[.pointer (some ⟨b_0, 0, none⟩)] 80 (0, 0)), ((b1 + 1), .cells #[.pointer (some ⟨1, 80, none⟩), .pointer (some ⟨b1, 0, none⟩), .int .u64 150] 106 (0, 0))]) (fun _ => [(b1 + 1), (b1 + 1), (b1 + 1)]) (fun _ => by kernel_rfl) (fun _ => ?_)
  obtain ⟨⟨r2, r3⟩, h4, hM⟩ := bind_some hM
  dsimp only at hM
  refine WL.callE (X := Unit) [] [] [true, true, false] (fun _ => _) (errors_as_1_calls b_0 b1 a0 a0_1 a1 _ h4) rfl rfl (fun _ h => h) (by kernel_rfl) (by kernel_rfl) (fun _ => rfl) (fun _ => ?_)
  refine WL.run 1 [] [4] (fun _ => [(4, .bool r2)]) (fun _ => [(b_0, .cells #[.int .i64 r3] 27 (0, 0)), (b1, .cells #[.pointer (some ⟨b_0, 0, none⟩)] 80 (0, 0)), ((b1 + 1), .cells #[.pointer (some ⟨1, 80, none⟩), .pointer (some ⟨b1, 0, none⟩), .int .u64 150] 106 (0, 0))]) (fun _ => []) (fun _ => by kernel_rfl) (fun _ => ?_)
  refine WP.done ?_
  refine WP.keep [true, false, false] (by kernel_rfl : _ = [(b_0, .cells #[.int .i64 r3] 27 (0, 0))]) ?_
  obtain rfl := Option.some.inj hM
  exact WP.ret [] [] (.bool r2) (by kernel_rfl) (fun w' hw => ⟨(), rfl, hw.pick [0] (by kernel_rfl)⟩)

end Go.Proofs.YtefbjefmclhhjaaDoor

namespace Go.Proofs.YtefbjefmclhhjaaDoor
open Go Eng
set_option linter.unusedVariables false
set_option linter.unusedSimpArgs false

/-! ### gangway/ether.number: function 25 -/
def ether_number.f (a0 : ByteArray) (a0_1 : Int) : Option (Int) :=
  (errors_As_1.f a0 a0_1 0).bind fun (r2, r3) =>
  bif r2 then
    some r3
  else
    some 0

set_option maxRecDepth 100000 in
theorem ether_number_calls (a0 : ByteArray) (a0_1 : Int) (r : Int) (h : ether_number.f a0 a0_1 = some r) : Pure Tryd.prog Glob 25 #[.iface 91 (.agg #[.string a0, .iface 27 (.int .i64 a0_1)])] (.int .i64 r) := by
  intro w Z hS
  refine calls_of (args := [.iface 91 (.agg #[.string a0, .iface 27 (.int .i64 a0_1)])]) (L := [(0, .iface 91 (.agg #[.string a0, .iface 27 (.int .i64 a0_1)]))]) (N := 8) (S := Sat w Z [] [] Glob) Tryd.func25 rfl rfl (Nat.le_of_ble_eq_true rfl) rfl hS ?_
  have hM := h
  clear h hS
  unfold ether_number.f at hM
  refine WP.seq ?_
  refine WP.run [] [0, 2] (fun _ => [(0, .iface 91 (.agg #[.string a0, .iface 27 (.int .i64 a0_1)])), (2, .int .i64 0)]) (fun _ => []) (fun _ => []) (fun _ => by kernel_rfl) (fun _ => ?_)
  refine WP.seq ?_
  refine WP.run [] [0, 2, 3] (fun b1 => [(0, .iface 91 (.agg #[.string a0, .iface 27 (.int .i64 a0_1)])), (2, .int .i64 0), (3, .pointer (some ⟨b1, 0, none⟩))]) (fun b1 => [(b1, .cells #[.int .i64 0] 27 (0, 0))]) (fun b1 => []) (fun b1 => by kernel_rfl) (fun b1 => ?_)
  refine WP.seq ?_
  refine WP.seq ?_
  refine WP.region ?_
  refine WL.run 2 [] [2, 3, 4, 5] (fun _ => [(2, .int .i64 0), (3, .pointer (some ⟨b1, 0, none⟩)), (4, .iface 91 (.agg #[.string a0, .iface 27 (.int .i64 a0_1)])), (5, .iface 80 (.pointer (some ⟨b1, 0, none⟩)))]) (fun _ => [(b1, .cells #[.int .i64 0] 27 (0, 0))]) (fun _ => []) (fun _ => by kernel_rfl) (fun _ => ?_)
  obtain ⟨⟨r2, r3⟩, h4, hM⟩ := bind_some hM
  dsimp only at hM
  refine WL.callE (X := Unit) [] [] [true] (fun _ => _) (errors_As_1_calls b1 a0 a0_1 0 _ h4) rfl rfl (fun _ h => h) (by kernel_rfl) (by kernel_rfl) (fun _ => rfl) (fun _ => ?_)
  refine WP.done ?_
  refine WP.cond r2 rfl rfl (fun c5 => ?_) (fun c5 => ?_)
  · replace hM := cond_t hM c5
    refine WP.seq ?_
    refine WP.run [0] [2] (fun _ => [(2, .int .i64 r3)]) (fun _ => [(b1, .cells #[.int .i64 r3] 27 (0, 0))]) (fun _ => [b1]) (fun _ => by kernel_rfl) (fun _ => ?_)
    refine WP.keep [false] (by kernel_rfl : _ = []) ?_
    obtain rfl := Option.some.inj hM
    exact WP.ret [] [] (.int .i64 r3) (by kernel_rfl) (fun w' hw => ⟨rfl, hw.pick [] rfl⟩)
  · replace hM := cond_f hM c5
    refine WP.skip ?_
    refine WP.seq ?_
    refine WP.run [] [2] (fun _ => [(2, .int .i64 0)]) (fun _ => [(b1, .cells #[.int .i64 r3] 27 (0, 0))]) (fun _ => []) (fun _ => by kernel_rfl) (fun _ => ?_)
    refine WP.keep [false] (by kernel_rfl : _ = []) ?_
    obtain rfl := Option.some.inj hM
    exact WP.ret [] [] (.int .i64 0) (by kernel_rfl) (fun w' hw => ⟨rfl, hw.pick [] rfl⟩)

end Go.Proofs.YtefbjefmclhhjaaDoor

namespace Go.Proofs.YtefbjefmclhhjaaDoor
open Go Eng
set_option linter.unusedVariables false
set_option linter.unusedSimpArgs false

/-! ### gangway/ether.Parse: function 9 -/
def ether_Parse.f (k : Nat) (a0 : ByteArray) : Option (api_Frame × Int) :=
  bif decide ((a0.size : Int) > 1600) then
    some ((api_Frame.mk 0 0 (api_Tag.mk false 0 false 0) 0 (⟨#[]⟩ : ByteArray)), 41)
  else
    (ether_reader_frame.f k (ether_reader.mk a0 0)).bind fun (r4, r5, r6) =>
    match r5 with
    | none =>
      (errors_Is.f 40).bind fun r9 =>
      bif r9 then
        some ((api_Frame.mk 0 0 (api_Tag.mk false 0 false 0) 0 (⟨#[]⟩ : ByteArray)), 40)
      else
        some (r4, 0)
    | some (q12, q13) =>
      (errors_Is_1.f q12 q13 40).bind fun r14 =>
      bif r14 then
        some ((api_Frame.mk 0 0 (api_Tag.mk false 0 false 0) 0 (⟨#[]⟩ : ByteArray)), 40)
      else
        (ether_number.f q12 q13).bind fun r17 =>
        some ((api_Frame.mk 0 0 (api_Tag.mk false 0 false 0) 0 (⟨#[]⟩ : ByteArray)), r17)

set_option maxRecDepth 100000 in
theorem ether_Parse_calls (k : Nat) (a0 : ByteArray) (r : api_Frame × Int) (h : ether_Parse.f k a0 = some r) : Pure Tryd.prog Glob 9 #[.string a0] (.tuple #[.agg #[.int .u64 r.1.Dst, .int .u64 r.1.Src, .bool r.1.Tag.Has, .int .i64 r.1.Tag.Pri, .bool r.1.Tag.Dei, .int .i64 r.1.Tag.Vid, .int .i64 r.1.Type_, .string r.1.Body], .int .i64 r.2]) := by
  intro w Z hS
  refine calls_of (args := [.string a0]) (L := [(0, .string a0)]) (N := 31) (S := Sat w Z [] [] Glob) Tryd.func9 rfl rfl (Nat.le_of_ble_eq_true rfl) rfl hS ?_
  have hM := h
  clear h hS
  unfold ether_Parse.f at hM
  refine WP.seq ?_
  refine WP.run [] [0, 2, 3] (fun b1 => [(0, .string a0), (2, .pointer (some ⟨b1, 0, none⟩)), (3, .int .i64 0)]) (fun b1 => [(b1, .cells #[.int .u64 0, .int .u64 0, .bool false, .int .i64 0, .bool false, .int .i64 0, .int .i64 0, .string (⟨#[]⟩ : ByteArray)] 26 (0, 0))]) (fun b1 => []) (fun b1 => by kernel_rfl) (fun b1 => ?_)
  refine WP.seq ?_
  refine WP.seq ?_
  refine WP.run [] [0, 2, 3, 9] (fun _ => [(0, .string a0), (2, .pointer (some ⟨b1, 0, none⟩)), (3, .int .i64 0), (9, .bool (decide ((a0.size : Int) > 1600)))]) (fun _ => [(b1, .cells #[.int .u64 0, .int .u64 0, .bool false, .int .i64 0, .bool false, .int .i64 0, .int .i64 0, .string (⟨#[]⟩ : ByteArray)] 26 (0, 0))]) (fun _ => []) (fun _ => by kernel_rfl) (fun _ => ?_)
  refine WP.cond (decide ((a0.size : Int) > 1600)) rfl rfl (fun c2 => ?_) (fun c2 => ?_)
  · replace hM := cond_t hM c2
    refine WP.seq ?_
    refine WP.run [0, 0, 0, 0, 0, 0, 0, 0] [0, 2, 3] (fun _ => [(0, .string a0), (2, .pointer (some ⟨b1, 0, none⟩)), (3, .int .i64 41)]) (fun _ => [(b1, .cells #[.int .u64 0, .int .u64 0, .bool false, .int .i64 0, .bool false, .int .i64 0, .int .i64 0, .string (⟨#[]⟩ : ByteArray)] 26 (0, 0))]) (fun _ => [b1, b1, b1, b1, b1, b1, b1, b1]) (fun _ => by kernel_rfl) (fun _ => ?_)
    obtain rfl := Option.some.inj hM
    exact WP.ret [0, 0, 0, 0, 0, 0, 0, 0] [b1, b1, b1, b1, b1, b1, b1, b1] (.tuple #[.agg #[.int .u64 0, .int .u64 0, .bool false, .int .i64 0, .bool false, .int .i64 0, .int .i64 0, .string (⟨#[]⟩ : ByteArray)], .int .i64 41]) (by kernel_rfl) (fun w' hw => ⟨rfl, hw.pick [] rfl⟩)
  · replace hM := cond_f hM c2
    refine WP.skip ?_
    refine WP.seq ?_
    refine WP.run [] [2, 3, 4] (fun b3 => [(2, .pointer (some ⟨b1, 0, none⟩)), (3, .int .i64 0), (4, .pointer (some ⟨b3, 0, none⟩))]) (fun b3 => [(b1, .cells #[.int .u64 0, .int .u64 0, .bool false, .int .i64 0, .bool false, .int .i64 0, .int .i64 0, .string (⟨#[]⟩ : ByteArray)] 26 (0, 0)), (b3, .cells #[.string a0, .int .i64 0] 50 (0, 0))]) (fun b3 => []) (fun b3 => by kernel_rfl) (fun b3 => ?_)
    refine WP.seq ?_
    refine WP.region ?_
    refine WL.run 1 [] [2, 3, 15] (fun _ => [(2, .pointer (some ⟨b1, 0, none⟩)), (3, .int .i64 0), (15, .pointer (some ⟨b3, 0, none⟩))]) (fun _ => [(b1, .cells #[.int .u64 0, .int .u64 0, .bool false, .int .i64 0, .bool false, .int .i64 0, .int .i64 0, .string (⟨#[]⟩ : ByteArray)] 26 (0, 0)), (b3, .cells #[.string a0, .int .i64 0] 50 (0, 0))]) (fun _ => []) (fun _ => by kernel_rfl) (fun _ => ?_)
    obtain ⟨⟨r4, r5, r6⟩, h7, hM⟩ := bind_some hM
    dsimp only at hM
    refine WL.callE (X := Unit) [] [] [false, true] (fun _ => _) (ether_reader_frame_calls k b3 (ether_reader.mk a0 0) _ h7) rfl rfl (fun _ h => h) (by kernel_rfl) (by kernel_rfl) (fun _ => rfl) (fun _ => ?_)
    refine WL.run 6 [2, 2, 2, 2, 2, 2, 2, 2] [2, 3, 5, 6] (fun b8 => [(2, .pointer (some ⟨b1, 0, none⟩)), (3, .int .i64 0), (5, .pointer (some ⟨b8, 0, none⟩)), (6, Un1.v r5)]) (fun b8 => [(b3, .cells #[.string r6.s, .int .i64 r6.at_] 50 (0, 0)), (b1, .cells #[.int .u64 0, .int .u64 0, .bool false, .int .i64 0, .bool false, .int .i64 0, .int .i64 0, .string (⟨#[]⟩ : ByteArray)] 26 (0, 0)), (b8, .cells #[.int .u64 r4.Dst, .int .u64 r4.Src, .bool r4.Tag.Has, .int .i64 r4.Tag.Pri, .bool r4.Tag.Dei, .int .i64 r4.Tag.Vid, .int .i64 r4.Type_, .string r4.Body] 26 (0, 0))]) (fun b8 => [b8, b8, b8, b8, b8, b8, b8, b8]) (fun b8 => by kernel_rfl) (fun b8 => ?_)
    refine WP.done ?_
    refine WP.keep [false, true, true] (by kernel_rfl : _ = [(b1, .cells #[.int .u64 0, .int .u64 0, .bool false, .int .i64 0, .bool false, .int .i64 0, .int .i64 0, .string (⟨#[]⟩ : ByteArray)] 26 (0, 0)), (b8, .cells #[.int .u64 r4.Dst, .int .u64 r4.Src, .bool r4.Tag.Has, .int .i64 r4.Tag.Pri, .bool r4.Tag.Dei, .int .i64 r4.Tag.Vid, .int .i64 r4.Type_, .string r4.Body] 26 (0, 0))]) ?_
    refine WP.seq ?_
    refine WP.block ?_
    refine WP.seq ?_
    refine WP.region ?_
    refine WL.run 2 [] [2, 3, 5, 6, 20, 21] (fun _ => [(2, .pointer (some ⟨b1, 0, none⟩)), (3, .int .i64 0), (5, .pointer (some ⟨b8, 0, none⟩)), (6, Un1.v r5), (20, Un1.v r5), (21, .iface 27 (.int .i64 40))]) (fun _ => [(b1, .cells #[.int .u64 0, .int .u64 0, .bool false, .int .i64 0, .bool false, .int .i64 0, .int .i64 0, .string (⟨#[]⟩ : ByteArray)] 26 (0, 0)), (b8, .cells #[.int .u64 r4.Dst, .int .u64 r4.Src, .bool r4.Tag.Has, .int .i64 r4.Tag.Pri, .bool r4.Tag.Dei, .int .i64 r4.Tag.Vid, .int .i64 r4.Type_, .string r4.Body] 26 (0, 0))]) (fun _ => []) (fun _ => by kernel_rfl) (fun _ => ?_)
    rcases r5 with _ | ⟨q12, q13⟩
    · dsimp only at hM
      obtain ⟨r9, h10, hM⟩ := bind_some hM
      refine WL.callP [] [] (errors_Is_calls 40 _ h10) (fun _ h => h) (by kernel_rfl) (by kernel_rfl) rfl ?_
      refine WL.run 1 [] [2, 3, 5, 6, 19] (fun _ => [(2, .pointer (some ⟨b1, 0, none⟩)), (3, .int .i64 0), (5, .pointer (some ⟨b8, 0, none⟩)), (6, .nilIface), (19, .bool r9)]) (fun _ => [(b1, .cells #[.int .u64 0, .int .u64 0, .bool false, .int .i64 0, .bool false, .int .i64 0, .int .i64 0, .string (⟨#[]⟩ : ByteArray)] 26 (0, 0)), (b8, .cells #[.int .u64 r4.Dst, .int .u64 r4.Src, .bool r4.Tag.Has, .int .i64 r4.Tag.Pri, .bool r4.Tag.Dei, .int .i64 r4.Tag.Vid, .int .i64 r4.Type_, .string r4.Body] 26 (0, 0))]) (fun _ => []) (fun _ => by kernel_rfl) (fun _ => ?_)
      refine WP.done ?_
      refine WP.cond r9 rfl rfl (fun c11 => ?_) (fun c11 => ?_)
      · replace hM := cond_t hM c11
        refine WP.seq ?_
        refine WP.run [0, 0, 0, 0, 0, 0, 0, 0] [2, 3, 5] (fun _ => [(2, .pointer (some ⟨b1, 0, none⟩)), (3, .int .i64 40), (5, .pointer (some ⟨b8, 0, none⟩))]) (fun _ => [(b1, .cells #[.int .u64 0, .int .u64 0, .bool false, .int .i64 0, .bool false, .int .i64 0, .int .i64 0, .string (⟨#[]⟩ : ByteArray)] 26 (0, 0)), (b8, .cells #[.int .u64 r4.Dst, .int .u64 r4.Src, .bool r4.Tag.Has, .int .i64 r4.Tag.Pri, .bool r4.Tag.Dei, .int .i64 r4.Tag.Vid, .int .i64 r4.Type_, .string r4.Body] 26 (0, 0))]) (fun _ => [b1, b1, b1, b1, b1, b1, b1, b1]) (fun _ => by kernel_rfl) (fun _ => ?_)
        obtain rfl := Option.some.inj hM
        exact WP.ret [0, 0, 0, 0, 0, 0, 0, 0] [b1, b1, b1, b1, b1, b1, b1, b1] (.tuple #[.agg #[.int .u64 0, .int .u64 0, .bool false, .int .i64 0, .bool false, .int .i64 0, .int .i64 0, .string (⟨#[]⟩ : ByteArray)], .int .i64 40]) (by kernel_rfl) (fun w' hw => ⟨rfl, hw.pick [] rfl⟩)
      · replace hM := cond_f hM c11
        refine WP.seq ?_
        refine WP.run [] [2, 3, 5, 6, 24] (fun _ => [(2, .pointer (some ⟨b1, 0, none⟩)), (3, .int .i64 0), (5, .pointer (some ⟨b8, 0, none⟩)), (6, .nilIface), (24, .bool false)]) (fun _ => [(b1, .cells #[.int .u64 0, .int .u64 0, .bool false, .int .i64 0, .bool false, .int .i64 0, .int .i64 0, .string (⟨#[]⟩ : ByteArray)] 26 (0, 0)), (b8, .cells #[.int .u64 r4.Dst, .int .u64 r4.Src, .bool r4.Tag.Has, .int .i64 r4.Tag.Pri, .bool r4.Tag.Dei, .int .i64 r4.Tag.Vid, .int .i64 r4.Type_, .string r4.Body] 26 (0, 0))]) (fun _ => []) (fun _ => by kernel_rfl) (fun _ => ?_)
        refine WP.no rfl rfl ?_
        refine WP.skip ?_
        refine WP.leave ?_
        refine WP.seq ?_
        refine WP.run [1, 1, 1, 1, 1, 1, 1, 1, 0, 0, 0, 0, 0, 0, 0, 0] [2, 3] (fun _ => [(2, .pointer (some ⟨b1, 0, none⟩)), (3, .int .i64 0)]) (fun _ => [(b1, .cells #[.int .u64 r4.Dst, .int .u64 r4.Src, .bool r4.Tag.Has, .int .i64 r4.Tag.Pri, .bool r4.Tag.Dei, .int .i64 r4.Tag.Vid, .int .i64 r4.Type_, .string r4.Body] 26 (0, 0)), (b8, .cells #[.int .u64 r4.Dst, .int .u64 r4.Src, .bool r4.Tag.Has, .int .i64 r4.Tag.Pri, .bool r4.Tag.Dei, .int .i64 r4.Tag.Vid, .int .i64 r4.Type_, .string r4.Body] 26 (0, 0))]) (fun _ => [b1, b1, b1, b1, b1, b1, b1, b1, b8, b8, b8, b8, b8, b8, b8, b8]) (fun _ => by kernel_rfl) (fun _ => ?_)
        refine WP.keep [true, false] (by kernel_rfl : _ = [(b1, .cells #[.int .u64 r4.Dst, .int .u64 r4.Src, .bool r4.Tag.Has, .int .i64 r4.Tag.Pri, .bool r4.Tag.Dei, .int .i64 r4.Tag.Vid, .int .i64 r4.Type_, .string r4.Body] 26 (0, 0))]) ?_
        obtain rfl := Option.some.inj hM
        exact WP.ret [0, 0, 0, 0, 0, 0, 0, 0] [b1, b1, b1, b1, b1, b1, b1, b1] (.tuple #[.agg #[.int .u64 r4.Dst, .int .u64 r4.Src, .bool r4.Tag.Has, .int .i64 r4.Tag.Pri, .bool r4.Tag.Dei, .int .i64 r4.Tag.Vid, .int .i64 r4.Type_, .string r4.Body], .int .i64 0]) (by kernel_rfl) (fun w' hw => ⟨rfl, hw.pick [] rfl⟩)
    · dsimp only at hM
      obtain ⟨r14, h15, hM⟩ := bind_some hM
      refine WL.callP [] [] (errors_Is_1_calls q12 q13 40 _ h15) (fun _ h => h) (by kernel_rfl) (by kernel_rfl) rfl ?_
      refine WL.run 1 [] [2, 3, 5, 6, 19] (fun _ => [(2, .pointer (some ⟨b1, 0, none⟩)), (3, .int .i64 0), (5, .pointer (some ⟨b8, 0, none⟩)), (6, .iface 91 (.agg #[.string q12, .iface 27 (.int .i64 q13)])), (19, .bool r14)]) (fun _ => [(b1, .cells #[.int .u64 0, .int .u64 0, .bool false, .int .i64 0, .bool false, .int .i64 0, .int .i64 0, .string (⟨#[]⟩ : ByteArray)] 26 (0, 0)), (b8, .cells #[.int .u64 r4.Dst, .int .u64 r4.Src, .bool r4.Tag.Has, .int .i64 r4.Tag.Pri, .bool r4.Tag.Dei, .int .i64 r4.Tag.Vid, .int .i64 r4.Type_, .string r4.Body] 26 (0, 0))]) (fun _ => []) (fun _ => by kernel_rfl) (fun _ => ?_)
      refine WP.done ?_
      refine WP.cond r14 rfl rfl (fun c16 => ?_) (fun c16 => ?_)
      · replace hM := cond_t hM c16
        refine WP.seq ?_
        refine WP.run [0, 0, 0, 0, 0, 0, 0, 0] [2, 3, 5] (fun _ => [(2, .pointer (some ⟨b1, 0, none⟩)), (3, .int .i64 40), (5, .pointer (some ⟨b8, 0, none⟩))]) (fun _ => [(b1, .cells #[.int .u64 0, .int .u64 0, .bool false, .int .i64 0, .bool false, .int .i64 0, .int .i64 0, .string (⟨#[]⟩ : ByteArray)] 26 (0, 0)), (b8, .cells #[.int .u64 r4.Dst, .int .u64 r4.Src, .bool r4.Tag.Has, .int .i64 r4.Tag.Pri, .bool r4.Tag.Dei, .int .i64 r4.Tag.Vid, .int .i64 r4.Type_, .string r4.Body] 26 (0, 0))]) (fun _ => [b1, b1, b1, b1, b1, b1, b1, b1]) (fun _ => by kernel_rfl) (fun _ => ?_)
        obtain rfl := Option.some.inj hM
        exact WP.ret [0, 0, 0, 0, 0, 0, 0, 0] [b1, b1, b1, b1, b1, b1, b1, b1] (.tuple #[.agg #[.int .u64 0, .int .u64 0, .bool false, .int .i64 0, .bool false, .int .i64 0, .int .i64 0, .string (⟨#[]⟩ : ByteArray)], .int .i64 40]) (by kernel_rfl) (fun w' hw => ⟨rfl, hw.pick [] rfl⟩)
      · replace hM := cond_f hM c16
        refine WP.seq ?_
        refine WP.run [] [2, 3, 5, 6, 24] (fun _ => [(2, .pointer (some ⟨b1, 0, none⟩)), (3, .int .i64 0), (5, .pointer (some ⟨b8, 0, none⟩)), (6, .iface 91 (.agg #[.string q12, .iface 27 (.int .i64 q13)])), (24, .bool true)]) (fun _ => [(b1, .cells #[.int .u64 0, .int .u64 0, .bool false, .int .i64 0, .bool false, .int .i64 0, .int .i64 0, .string (⟨#[]⟩ : ByteArray)] 26 (0, 0)), (b8, .cells #[.int .u64 r4.Dst, .int .u64 r4.Src, .bool r4.Tag.Has, .int .i64 r4.Tag.Pri, .bool r4.Tag.Dei, .int .i64 r4.Tag.Vid, .int .i64 r4.Type_, .string r4.Body] 26 (0, 0))]) (fun _ => []) (fun _ => by kernel_rfl) (fun _ => ?_)
        refine WP.yes rfl rfl ?_
        refine WP.seq ?_
        refine WP.region ?_
        refine WL.run 2 [] [2, 3, 5, 27, 28] (fun _ => [(2, .pointer (some ⟨b1, 0, none⟩)), (3, .int .i64 0), (5, .pointer (some ⟨b8, 0, none⟩)), (27, .agg #[.int .u64 0, .int .u64 0, .bool false, .int .i64 0, .bool false, .int .i64 0, .int .i64 0, .string (⟨#[]⟩ : ByteArray)]), (28, .iface 91 (.agg #[.string q12, .iface 27 (.int .i64 q13)]))]) (fun _ => [(b1, .cells #[.int .u64 0, .int .u64 0, .bool false, .int .i64 0, .bool false, .int .i64 0, .int .i64 0, .string (⟨#[]⟩ : ByteArray)] 26 (0, 0)), (b8, .cells #[.int .u64 r4.Dst, .int .u64 r4.Src, .bool r4.Tag.Has, .int .i64 r4.Tag.Pri, .bool r4.Tag.Dei, .int .i64 r4.Tag.Vid, .int .i64 r4.Type_, .string r4.Body] 26 (0, 0))]) (fun _ => []) (fun _ => by kernel_rfl) (fun _ => ?_)
        obtain ⟨r17, h18, hM⟩ := bind_some hM
        refine WL.callP [] [] (ether_number_calls q12 q13 _ h18) (fun _ h => h) (by kernel_rfl) (by kernel_rfl) rfl ?_
        refine WL.run 2 [0, 0, 0, 0, 0, 0, 0, 0] [2, 3, 5] (fun _ => [(2, .pointer (some ⟨b1, 0, none⟩)), (3, .int .i64 r17), (5, .pointer (some ⟨b8, 0, none⟩))]) (fun _ => [(b1, .cells #[.int .u64 0, .int .u64 0, .bool false, .int .i64 0, .bool false, .int .i64 0, .int .i64 0, .string (⟨#[]⟩ : ByteArray)] 26 (0, 0)), (b8, .cells #[.int .u64 r4.Dst, .int .u64 r4.Src, .bool r4.Tag.Has, .int .i64 r4.Tag.Pri, .bool r4.Tag.Dei, .int .i64 r4.Tag.Vid, .int .i64 r4.Type_, .string r4.Body] 26 (0, 0))]) (fun _ => [b1, b1, b1, b1, b1, b1, b1, b1]) (fun _ => by kernel_rfl) (fun _ => ?_)
        refine WP.done ?_
        obtain rfl := Option.some.inj hM
        exact WP.ret [0, 0, 0, 0, 0, 0, 0, 0] [b1, b1, b1, b1, b1, b1, b1, b1] (.tuple #[.agg #[.int .u64 0, .int .u64 0, .bool false, .int .i64 0, .bool false, .int .i64 0, .int .i64 0, .string (⟨#[]⟩ : ByteArray)], .int .i64 r17]) (by kernel_rfl) (fun w' hw => ⟨rfl, hw.pick [] rfl⟩)

end Go.Proofs.YtefbjefmclhhjaaDoor

namespace Go.Proofs.YtefbjefmclhhjaaDoor
open Go Eng
set_option linter.unusedVariables false
set_option linter.unusedSimpArgs false

/-! ### gangway/ether.Bare: function 17 -/
def ether_Bare.f (a0 : api_Frame) : Option (api_Frame) :=
  some (api_Frame.mk a0.Dst a0.Src (api_Tag.mk false 0 false 0) a0.Type_ a0.Body)

set_option maxRecDepth 100000 in
theorem ether_Bare_calls (a0 : api_Frame) (r : api_Frame) (h : ether_Bare.f a0 = some r) : Pure Tryd.prog Glob 17 #[.agg #[.int .u64 a0.Dst, .int .u64 a0.Src, .bool a0.Tag.Has, .int .i64 a0.Tag.Pri, .bool a0.Tag.Dei, .int .i64 a0.Tag.Vid, .int .i64 a0.Type_, .string a0.Body]] (.agg #[.int .u64 r.Dst, .int .u64 r.Src, .bool r.Tag.Has, .int .i64 r.Tag.Pri, .bool r.Tag.Dei, .int .i64 r.Tag.Vid, .int .i64 r.Type_, .string r.Body]) := by
  intro w Z hS
  refine calls_of (args := [.agg #[.int .u64 a0.Dst, .int .u64 a0.Src, .bool a0.Tag.Has, .int .i64 a0.Tag.Pri, .bool a0.Tag.Dei, .int .i64 a0.Tag.Vid, .int .i64 a0.Type_, .string a0.Body]]) (L := [(0, .agg #[.int .u64 a0.Dst, .int .u64 a0.Src, .bool a0.Tag.Has, .int .i64 a0.Tag.Pri, .bool a0.Tag.Dei, .int .i64 a0.Tag.Vid, .int .i64 a0.Type_, .string a0.Body])]) (N := 6) (S := Sat w Z [] [] Glob) Tryd.func17 rfl rfl (Nat.le_of_ble_eq_true rfl) rfl hS ?_
  have hM := h
  clear h hS
  unfold ether_Bare.f at hM
  refine WP.seq ?_
  refine WP.run [] [1, 2] (fun b1 => [(1, .pointer (some ⟨b1, 0, none⟩)), (2, .pointer (some ⟨(b1 + 1), 0, none⟩))]) (fun b1 => [(b1, .cells #[.int .u64 a0.Dst, .int .u64 a0.Src, .bool a0.Tag.Has, .int .i64 a0.Tag.Pri, .bool a0.Tag.Dei, .int .i64 a0.Tag.Vid, .int .i64 a0.Type_, .string a0.Body] 26 (0, 0)), ((b1 + 1), .cells #[.int .u64 0, .int .u64 0, .bool false, .int .i64 0, .bool false, .int .i64 0, .int .i64 0, .string (⟨#[]⟩ : ByteArray)] 26 (0, 0))]) (fun b1 => []) (fun b1 => by kernel_rfl) (fun b1 => ?_)
  refine WP.seq ?_
  refine WP.run [0, 0, 0, 0] [1, 2] (fun _ => [(1, .pointer (some ⟨b1, 0, none⟩)), (2, .pointer (some ⟨(b1 + 1), 0, none⟩))]) (fun _ => [(b1, .cells #[.int .u64 a0.Dst, .int .u64 a0.Src, .bool false, .int .i64 0, .bool false, .int .i64 0, .int .i64 a0.Type_, .string a0.Body] 26 (0, 0)), ((b1 + 1), .cells #[.int .u64 0, .int .u64 0, .bool false, .int .i64 0, .bool false, .int .i64 0, .int .i64 0, .string (⟨#[]⟩ : ByteArray)] 26 (0, 0))]) (fun _ => [b1, b1, b1, b1]) (fun _ => by kernel_rfl) (fun _ => ?_)
  refine WP.seq ?_
  refine WP.run [0, 0, 0, 0, 0, 0, 0, 0, 1, 1, 1, 1, 1, 1, 1, 1] [2] (fun _ => [(2, .pointer (some ⟨(b1 + 1), 0, none⟩))]) (fun _ => [(b1, .cells #[.int .u64 a0.Dst, .int .u64 a0.Src, .bool false, .int .i64 0, .bool false, .int .i64 0, .int .i64 a0.Type_, .string a0.Body] 26 (0, 0)), ((b1 + 1), .cells #[.int .u64 a0.Dst, .int .u64 a0.Src, .bool false, .int .i64 0, .bool false, .int .i64 0, .int .i64 a0.Type_, .string a0.Body] 26 (0, 0))]) (fun _ => [(b1 + 1), (b1 + 1), (b1 + 1), (b1 + 1), (b1 + 1), (b1 + 1), (b1 + 1), (b1 + 1), b1, b1, b1, b1, b1, b1, b1, b1]) (fun _ => by kernel_rfl) (fun _ => ?_)
  refine WP.keep [false, true] (by kernel_rfl : _ = [((b1 + 1), .cells #[.int .u64 a0.Dst, .int .u64 a0.Src, .bool false, .int .i64 0, .bool false, .int .i64 0, .int .i64 a0.Type_, .string a0.Body] 26 (0, 0))]) ?_
  obtain rfl := Option.some.inj hM
  exact WP.ret [0, 0, 0, 0, 0, 0, 0, 0] [(b1 + 1), (b1 + 1), (b1 + 1), (b1 + 1), (b1 + 1), (b1 + 1), (b1 + 1), (b1 + 1)] (.agg #[.int .u64 a0.Dst, .int .u64 a0.Src, .bool false, .int .i64 0, .bool false, .int .i64 0, .int .i64 a0.Type_, .string a0.Body]) (by kernel_rfl) (fun w' hw => ⟨rfl, hw.pick [] rfl⟩)

end Go.Proofs.YtefbjefmclhhjaaDoor

namespace Go.Proofs.YtefbjefmclhhjaaDoor
open Go Eng
set_option linter.unusedVariables false
set_option linter.unusedSimpArgs false

/-! ### gangway/gangwaylaw04.fixed: function 11 -/
def gangwaylaw04_fixed.k1 (x22 : Bool) : Option (Bool) :=
  some x22

def gangwaylaw04_fixed.k2 (r5 : Int) (r11 : Int) (r15 : Int) (r4 : api_Frame) (x18 : Bool) : Option (Bool) :=
  bif (((x18 && (r5 == 0)) && (r11 == 40)) && (r15 == 41)) then
    (ether_Bare.f r4).bind fun r20 =>
    gangwaylaw04_fixed.k1 ((r20.Dst == 281474976710655) && ((r20.Src == 2) && (((r20.Tag.Has == false) && ((r20.Tag.Pri == 0) && ((r20.Tag.Dei == false) && ((r20.Tag.Vid == 0) && true)))) && ((r20.Type_ == 0) && ((r20.Body == (⟨#[97, 98]⟩ : ByteArray)) && true)))))
  else
    gangwaylaw04_fixed.k1 false

def gangwaylaw04_fixed.f (k : Nat) : Option (Bool) :=
  (ether_Build.f k (api_Frame.mk 281474976710655 2 (api_Tag.mk false 0 false 0) 2054 (⟨#[]⟩ : ByteArray))).bind fun (r1, r2) =>
  (ether_Parse.f k (⟨#[255, 255, 255, 255, 255, 255, 0, 0, 0, 0, 0, 2, 129, 0, 80, 7, 0, 2, 97, 98, 99]⟩ : ByteArray)).bind fun (r4, r5) =>
  (sliceS r1 0 (imin (r1.size : Int) 13)).bind fun t8 =>
  (ether_Parse.f k t8).bind fun (r10, r11) =>
  (ether_Build.f k (api_Frame.mk 0 0 (api_Tag.mk false 0 false 0) 5 (⟨#[]⟩ : ByteArray))).bind fun (r14, r15) =>
  bif ((r1.toList == (⟨#[255, 255, 255, 255, 255, 255, 0, 0, 0, 0, 0, 2, 8, 6]⟩ : ByteArray).toList) && (r2 == 0)) then
    gangwaylaw04_fixed.k2 r5 r11 r15 r4 ((r4.Dst == 281474976710655) && ((r4.Src == 2) && (((r4.Tag.Has == true) && ((r4.Tag.Pri == 2) && ((r4.Tag.Dei == true) && ((r4.Tag.Vid == 7) && true)))) && ((r4.Type_ == 0) && ((r4.Body == (⟨#[97, 98]⟩ : ByteArray)) && true)))))
  else
    gangwaylaw04_fixed.k2 r5 r11 r15 r4 false

set_option maxRecDepth 100000 in
theorem gangwaylaw04_fixed_calls (k : Nat) (r : Bool) (h : gangwaylaw04_fixed.f k = some r) : Pure Tryd.prog Glob 11 #[] (.bool r) := by
  intro w Z hS
  refine calls_of (args := []) (L := []) (N := 62) (S := Sat w Z [] [] Glob) Tryd.func11 rfl rfl (Nat.le_of_ble_eq_true rfl) rfl hS ?_
  have hM := h
  clear h hS
  unfold gangwaylaw04_fixed.f at hM
  refine WP.seq ?_
  refine WP.run [] [0] (fun _ => [(0, .bool false)]) (fun _ => []) (fun _ => []) (fun _ => by kernel_rfl) (fun _ => ?_)
  refine WP.seq ?_
  refine WP.region ?_
  refine WL.run 1 [] [0, 10] (fun _ => [(0, .bool false), (10, .agg #[.int .u64 281474976710655, .int .u64 2, .bool false, .int .i64 0, .bool false, .int .i64 0, .int .i64 2054, .string (⟨#[]⟩ : ByteArray)])]) (fun _ => []) (fun _ => []) (fun _ => by kernel_rfl) (fun _ => ?_)
  obtain ⟨⟨r1, r2⟩, h3, hM⟩ := bind_some hM
  dsimp only at hM
  refine WL.callP [] [] (ether_Build_calls k (api_Frame.mk 281474976710655 2 (api_Tag.mk false 0 false 0) 2054 (⟨#[]⟩ : ByteArray)) _ h3) (fun _ h => h) (by kernel_rfl) (by kernel_rfl) rfl ?_
  refine WL.run 5 [] [0, 1, 2] (fun _ => [(0, .bool false), (1, .string r1), (2, .int .i64 r2)]) (fun _ => []) (fun _ => []) (fun _ => by kernel_rfl) (fun _ => ?_)
  refine WP.done ?_
  refine WP.seq ?_
  refine WP.region ?_
  obtain ⟨⟨r4, r5⟩, h6, hM⟩ := bind_some hM
  dsimp only at hM
  refine WL.callP [] [] (ether_Parse_calls k (⟨#[255, 255, 255, 255, 255, 255, 0, 0, 0, 0, 0, 2, 129, 0, 80, 7, 0, 2, 97, 98, 99]⟩ : ByteArray) _ h6) (fun _ h => h) (by kernel_rfl) (by kernel_rfl) rfl ?_
  refine WL.run 6 [0, 0, 0, 0, 0, 0, 0, 0] [0, 1, 2, 3, 4] (fun b7 => [(0, .bool false), (1, .string r1), (2, .int .i64 r2), (3, .pointer (some ⟨b7, 0, none⟩)), (4, .int .i64 r5)]) (fun b7 => [(b7, .cells #[.int .u64 r4.Dst, .int .u64 r4.Src, .bool r4.Tag.Has, .int .i64 r4.Tag.Pri, .bool r4.Tag.Dei, .int .i64 r4.Tag.Vid, .int .i64 r4.Type_, .string r4.Body] 26 (0, 0))]) (fun b7 => [b7, b7, b7, b7, b7, b7, b7, b7]) (fun b7 => by kernel_rfl) (fun b7 => ?_)
  refine WP.done ?_
  refine WP.seq ?_
  refine WP.region ?_
  refine WL.run 4 [] [0, 1, 2, 3, 4, 19, 22] (fun _ => [(0, .bool false), (1, .string r1), (2, .int .i64 r2), (3, .pointer (some ⟨b7, 0, none⟩)), (4, .int .i64 r5), (19, .string r1), (22, .int .i64 (imin (r1.size : Int) 13))]) (fun _ => [(b7, .cells #[.int .u64 r4.Dst, .int .u64 r4.Src, .bool r4.Tag.Has, .int .i64 r4.Tag.Pri, .bool r4.Tag.Dei, .int .i64 r4.Tag.Vid, .int .i64 r4.Type_, .string r4.Body] 26 (0, 0))]) (fun _ => []) (fun _ => by kernel_rfl) (fun _ => ?_)
  obtain ⟨t8, h9, hM⟩ := bind_some hM
  refine WL.val (fun _ => run_sliceS_hi (s := r1) (kh := .i64) (h := imin (r1.size : Int) 13) (by kernel_rfl) (by kernel_rfl) (by kernel_rfl) h9) (by kernel_rfl) (by kernel_rfl) rfl ?_
  obtain ⟨⟨r10, r11⟩, h12, hM⟩ := bind_some hM
  dsimp only at hM
  refine WL.callP [] [] (ether_Parse_calls k t8 _ h12) (fun _ h => h) (by kernel_rfl) (by kernel_rfl) rfl ?_
  refine WL.run 6 [1, 1, 1, 1, 1, 1, 1, 1] [0, 1, 2, 3, 4, 6] (fun b13 => [(0, .bool false), (1, .string r1), (2, .int .i64 r2), (3, .pointer (some ⟨b7, 0, none⟩)), (4, .int .i64 r5), (6, .int .i64 r11)]) (fun b13 => [(b7, .cells #[.int .u64 r4.Dst, .int .u64 r4.Src, .bool r4.Tag.Has, .int .i64 r4.Tag.Pri, .bool r4.Tag.Dei, .int .i64 r4.Tag.Vid, .int .i64 r4.Type_, .string r4.Body] 26 (0, 0)), (b13, .cells #[.int .u64 r10.Dst, .int .u64 r10.Src, .bool r10.Tag.Has, .int .i64 r10.Tag.Pri, .bool r10.Tag.Dei, .int .i64 r10.Tag.Vid, .int .i64 r10.Type_, .string r10.Body] 26 (0, 0))]) (fun b13 => [b13, b13, b13, b13, b13, b13, b13, b13]) (fun b13 => by kernel_rfl) (fun b13 => ?_)
  refine WP.done ?_
  refine WP.keep [true, false] (by kernel_rfl : _ = [(b7, .cells #[.int .u64 r4.Dst, .int .u64 r4.Src, .bool r4.Tag.Has, .int .i64 r4.Tag.Pri, .bool r4.Tag.Dei, .int .i64 r4.Tag.Vid, .int .i64 r4.Type_, .string r4.Body] 26 (0, 0))]) ?_
  refine WP.seq ?_
  refine WP.region ?_
  refine WL.run 1 [] [0, 1, 2, 3, 4, 6, 28] (fun _ => [(0, .bool false), (1, .string r1), (2, .int .i64 r2), (3, .pointer (some ⟨b7, 0, none⟩)), (4, .int .i64 r5), (6, .int .i64 r11), (28, .agg #[.int .u64 0, .int .u64 0, .bool false, .int .i64 0, .bool false, .int .i64 0, .int .i64 5, .string (⟨#[]⟩ : ByteArray)])]) (fun _ => [(b7, .cells #[.int .u64 r4.Dst, .int .u64 r4.Src, .bool r4.Tag.Has, .int .i64 r4.Tag.Pri, .bool r4.Tag.Dei, .int .i64 r4.Tag.Vid, .int .i64 r4.Type_, .string r4.Body] 26 (0, 0))]) (fun _ => []) (fun _ => by kernel_rfl) (fun _ => ?_)
  obtain ⟨⟨r14, r15⟩, h16, hM⟩ := bind_some hM
  dsimp only at hM
  refine WL.callP [] [] (ether_Build_calls k (api_Frame.mk 0 0 (api_Tag.mk false 0 false 0) 5 (⟨#[]⟩ : ByteArray)) _ h16) (fun _ h => h) (by kernel_rfl) (by kernel_rfl) rfl ?_
  refine WL.run 5 [] [0, 1, 2, 3, 4, 6, 8] (fun _ => [(0, .bool false), (1, .string r1), (2, .int .i64 r2), (3, .pointer (some ⟨b7, 0, none⟩)), (4, .int .i64 r5), (6, .int .i64 r11), (8, .int .i64 r15)]) (fun _ => [(b7, .cells #[.int .u64 r4.Dst, .int .u64 r4.Src, .bool r4.Tag.Has, .int .i64 r4.Tag.Pri, .bool r4.Tag.Dei, .int .i64 r4.Tag.Vid, .int .i64 r4.Type_, .string r4.Body] 26 (0, 0))]) (fun _ => []) (fun _ => by kernel_rfl) (fun _ => ?_)
  refine WP.done ?_
  refine WP.seq ?_
  refine WP.region ?_
  refine WL.run 3 [] [0, 2, 3, 4, 6, 8, 34] (fun _ => [(0, .bool false), (2, .int .i64 r2), (3, .pointer (some ⟨b7, 0, none⟩)), (4, .int .i64 r5), (6, .int .i64 r11), (8, .int .i64 r15), (34, .bool (r1.toList == (⟨#[255, 255, 255, 255, 255, 255, 0, 0, 0, 0, 0, 2, 8, 6]⟩ : ByteArray).toList))]) (fun _ => [(b7, .cells #[.int .u64 r4.Dst, .int .u64 r4.Src, .bool r4.Tag.Has, .int .i64 r4.Tag.Pri, .bool r4.Tag.Dei, .int .i64 r4.Tag.Vid, .int .i64 r4.Type_, .string r4.Body] 26 (0, 0))]) (fun _ => []) (fun _ => by kernel_rfl) (fun _ => ?_)
  refine WL.sub [0, 2, 3, 4, 6, 8, 34] (L' := [(0, .bool false), (2, .int .i64 r2), (3, .pointer (some ⟨b7, 0, none⟩)), (4, .int .i64 r5), (6, .int .i64 r11), (8, .int .i64 r15), (34, .bool (r1.toList == (⟨#[255, 255, 255, 255, 255, 255, 0, 0, 0, 0, 0, 2, 8, 6]⟩ : ByteArray).toList))]) (by kernel_rfl) ?_
  refine WL.both (fun b' => [(0, .bool false), (2, .int .i64 r2), (3, .pointer (some ⟨b7, 0, none⟩)), (4, .int .i64 r5), (6, .int .i64 r11), (8, .int .i64 r15), (34, .bool b')]) (r1.toList == (⟨#[255, 255, 255, 255, 255, 255, 0, 0, 0, 0, 0, 2, 8, 6]⟩ : ByteArray).toList) 3 [] [] [0, 3, 4, 6, 8, 37] (fun b' => [(0, .bool false), (3, .pointer (some ⟨b7, 0, none⟩)), (4, .int .i64 r5), (6, .int .i64 r11), (8, .int .i64 r15), (37, .bool (b' && (r2 == 0)))]) [] [] (fun _ => by kernel_rfl) (fun _ => by kernel_rfl) ?_
  refine WL.run 1 [] [0, 3, 4, 6, 8, 38] (fun _ => [(0, .bool false), (3, .pointer (some ⟨b7, 0, none⟩)), (4, .int .i64 r5), (6, .int .i64 r11), (8, .int .i64 r15), (38, .bool ((r1.toList == (⟨#[255, 255, 255, 255, 255, 255, 0, 0, 0, 0, 0, 2, 8, 6]⟩ : ByteArray).toList) && (r2 == 0)))]) (fun _ => [(b7, .cells #[.int .u64 r4.Dst, .int .u64 r4.Src, .bool r4.Tag.Has, .int .i64 r4.Tag.Pri, .bool r4.Tag.Dei, .int .i64 r4.Tag.Vid, .int .i64 r4.Type_, .string r4.Body] 26 (0, 0))]) (fun _ => []) (fun _ => by kernel_rfl) (fun _ => ?_)
  refine WL.sub [0, 3, 4, 6, 8, 38] (L' := [(0, .bool false), (3, .pointer (some ⟨b7, 0, none⟩)), (4, .int .i64 r5), (6, .int .i64 r11), (8, .int .i64 r15), (38, .bool ((r1.toList == (⟨#[255, 255, 255, 255, 255, 255, 0, 0, 0, 0, 0, 2, 8, 6]⟩ : ByteArray).toList) && (r2 == 0)))]) (by kernel_rfl) ?_
  refine WL.join (σ := Bool) 5 (fun st => gangwaylaw04_fixed.k2 r5 r11 r15 r4 st = some r) (fun st => [(0, .bool false), (3, .pointer (some ⟨b7, 0, none⟩)), (4, .int .i64 r5), (6, .int .i64 r11), (8, .int .i64 r15), (43, .bool st)]) (fun st => Sat w Z [(b7, .cells #[.int .u64 r4.Dst, .int .u64 r4.Src, .bool r4.Tag.Has, .int .i64 r4.Tag.Pri, .bool r4.Tag.Dei, .int .i64 r4.Tag.Vid, .int .i64 r4.Type_, .string r4.Body] 26 (0, 0))] [] Glob) (fun st hM => ?_) (fun K2 => ?_)
  ·
    obtain ⟨x18, rfl⟩ : ∃ y, y = st := ⟨st, rfl⟩
    replace hM : gangwaylaw04_fixed.k2 r5 r11 r15 r4 x18 = some r := hM
    unfold gangwaylaw04_fixed.k2 at hM
    show WL _ _ _ _ _ [(0, .bool false), (3, .pointer (some ⟨b7, 0, none⟩)), (4, .int .i64 r5), (6, .int .i64 r11), (8, .int .i64 r15), (43, .bool x18)] (Sat w Z [(b7, .cells #[.int .u64 r4.Dst, .int .u64 r4.Src, .bool r4.Tag.Has, .int .i64 r4.Tag.Pri, .bool r4.Tag.Dei, .int .i64 r4.Tag.Vid, .int .i64 r4.Type_, .string r4.Body] 26 (0, 0))] [] Glob)
    refine WL.run 1 [] [0, 3, 4, 6, 8, 44] (fun _ => [(0, .bool false), (3, .pointer (some ⟨b7, 0, none⟩)), (4, .int .i64 r5), (6, .int .i64 r11), (8, .int .i64 r15), (44, .bool x18)]) (fun _ => [(b7, .cells #[.int .u64 r4.Dst, .int .u64 r4.Src, .bool r4.Tag.Has, .int .i64 r4.Tag.Pri, .bool r4.Tag.Dei, .int .i64 r4.Tag.Vid, .int .i64 r4.Type_, .string r4.Body] 26 (0, 0))]) (fun _ => []) (fun _ => by kernel_rfl) (fun _ => ?_)
    refine WL.sub [0, 3, 4, 6, 8, 44] (L' := [(0, .bool false), (3, .pointer (some ⟨b7, 0, none⟩)), (4, .int .i64 r5), (6, .int .i64 r11), (8, .int .i64 r15), (44, .bool x18)]) (by kernel_rfl) ?_
    refine WL.both (fun b' => [(0, .bool false), (3, .pointer (some ⟨b7, 0, none⟩)), (4, .int .i64 r5), (6, .int .i64 r11), (8, .int .i64 r15), (44, .bool b')]) x18 3 [] [] [0, 3, 6, 8, 47] (fun b' => [(0, .bool false), (3, .pointer (some ⟨b7, 0, none⟩)), (6, .int .i64 r11), (8, .int .i64 r15), (47, .bool (b' && (r5 == 0)))]) [] [] (fun _ => by kernel_rfl) (fun _ => by kernel_rfl) ?_
    refine WL.run 1 [] [0, 3, 6, 8, 48] (fun _ => [(0, .bool false), (3, .pointer (some ⟨b7, 0, none⟩)), (6, .int .i64 r11), (8, .int .i64 r15), (48, .bool (x18 && (r5 == 0)))]) (fun _ => [(b7, .cells #[.int .u64 r4.Dst, .int .u64 r4.Src, .bool r4.Tag.Has, .int .i64 r4.Tag.Pri, .bool r4.Tag.Dei, .int .i64 r4.Tag.Vid, .int .i64 r4.Type_, .string r4.Body] 26 (0, 0))]) (fun _ => []) (fun _ => by kernel_rfl) (fun _ => ?_)
    refine WL.sub [0, 3, 6, 8, 48] (L' := [(0, .bool false), (3, .pointer (some ⟨b7, 0, none⟩)), (6, .int .i64 r11), (8, .int .i64 r15), (48, .bool (x18 && (r5 == 0)))]) (by kernel_rfl) ?_
    refine WL.both (fun b' => [(0, .bool false), (3, .pointer (some ⟨b7, 0, none⟩)), (6, .int .i64 r11), (8, .int .i64 r15), (48, .bool b')]) (x18 && (r5 == 0)) 3 [] [] [0, 3, 8, 51] (fun b' => [(0, .bool false), (3, .pointer (some ⟨b7, 0, none⟩)), (8, .int .i64 r15), (51, .bool (b' && (r11 == 40)))]) [] [] (fun _ => by kernel_rfl) (fun _ => by kernel_rfl) ?_
    refine WL.run 1 [] [0, 3, 8, 52] (fun _ => [(0, .bool false), (3, .pointer (some ⟨b7, 0, none⟩)), (8, .int .i64 r15), (52, .bool ((x18 && (r5 == 0)) && (r11 == 40)))]) (fun _ => [(b7, .cells #[.int .u64 r4.Dst, .int .u64 r4.Src, .bool r4.Tag.Has, .int .i64 r4.Tag.Pri, .bool r4.Tag.Dei, .int .i64 r4.Tag.Vid, .int .i64 r4.Type_, .string r4.Body] 26 (0, 0))]) (fun _ => []) (fun _ => by kernel_rfl) (fun _ => ?_)
    refine WL.sub [0, 3, 8, 52] (L' := [(0, .bool false), (3, .pointer (some ⟨b7, 0, none⟩)), (8, .int .i64 r15), (52, .bool ((x18 && (r5 == 0)) && (r11 == 40)))]) (by kernel_rfl) ?_
    refine WL.both (fun b' => [(0, .bool false), (3, .pointer (some ⟨b7, 0, none⟩)), (8, .int .i64 r15), (52, .bool b')]) ((x18 && (r5 == 0)) && (r11 == 40)) 3 [] [] [0, 3, 55] (fun b' => [(0, .bool false), (3, .pointer (some ⟨b7, 0, none⟩)), (55, .bool (b' && (r15 == 41)))]) [] [] (fun _ => by kernel_rfl) (fun _ => by kernel_rfl) ?_
    refine WL.run 1 [] [0, 3, 56] (fun _ => [(0, .bool false), (3, .pointer (some ⟨b7, 0, none⟩)), (56, .bool (((x18 && (r5 == 0)) && (r11 == 40)) && (r15 == 41)))]) (fun _ => [(b7, .cells #[.int .u64 r4.Dst, .int .u64 r4.Src, .bool r4.Tag.Has, .int .i64 r4.Tag.Pri, .bool r4.Tag.Dei, .int .i64 r4.Tag.Vid, .int .i64 r4.Type_, .string r4.Body] 26 (0, 0))]) (fun _ => []) (fun _ => by kernel_rfl) (fun _ => ?_)
    refine WL.sub [0, 3, 56] (L' := [(0, .bool false), (3, .pointer (some ⟨b7, 0, none⟩)), (56, .bool (((x18 && (r5 == 0)) && (r11 == 40)) && (r15 == 41)))]) (by kernel_rfl) ?_
    refine WL.join (σ := Bool) 5 (fun st => gangwaylaw04_fixed.k1 st = some r) (fun st => [(0, .bool false), (61, .bool st)]) (fun st => Sat w Z [] [] Glob) (fun st hM => ?_) (fun K1 => ?_)
    ·
      obtain ⟨x22, rfl⟩ : ∃ y, y = st := ⟨st, rfl⟩
      replace hM : gangwaylaw04_fixed.k1 x22 = some r := hM
      unfold gangwaylaw04_fixed.k1 at hM
      show WL _ _ _ _ _ [(0, .bool false), (61, .bool x22)] (Sat w Z [] [] Glob)
      refine WL.run 1 [] [0] (fun _ => [(0, .bool x22)]) (fun _ => []) (fun _ => []) (fun _ => by kernel_rfl) (fun _ => ?_)
      refine WP.done ?_
      obtain rfl := Option.some.inj hM
      exact WP.ret [] [] (.bool x22) (by kernel_rfl) (fun w' hw => ⟨rfl, hw.pick [] rfl⟩)
    ·
      refine WL.split (fun b' => [(0, .bool false), (3, .pointer (some ⟨b7, 0, none⟩)), (56, .bool b')]) (((x18 && (r5 == 0)) && (r11 == 40)) && (r15 == 41)) (fun c19 => ?_) (fun c19 => ?_)
      · replace hM := cond_t hM c19
        refine WL.run 1 [0, 0, 0, 0, 0, 0, 0, 0] [0, 56, 57] (fun _ => [(0, .bool false), (56, .bool true), (57, .agg #[.int .u64 r4.Dst, .int .u64 r4.Src, .bool r4.Tag.Has, .int .i64 r4.Tag.Pri, .bool r4.Tag.Dei, .int .i64 r4.Tag.Vid, .int .i64 r4.Type_, .string r4.Body])]) (fun _ => [(b7, .cells #[.int .u64 r4.Dst, .int .u64 r4.Src, .bool r4.Tag.Has, .int .i64 r4.Tag.Pri, .bool r4.Tag.Dei, .int .i64 r4.Tag.Vid, .int .i64 r4.Type_, .string r4.Body] 26 (0, 0))]) (fun _ => [b7, b7, b7, b7, b7, b7, b7, b7]) (fun _ => by kernel_rfl) (fun _ => ?_)
        obtain ⟨r20, h21, hM⟩ := bind_some hM
        refine WL.callP [] [] (ether_Bare_calls r4 _ h21) (fun _ h => h) (by kernel_rfl) (by kernel_rfl) rfl ?_
        refine WL.run 1 [] [0, 56, 58, 59] (fun _ => [(0, .bool false), (56, .bool true), (58, .agg #[.int .u64 r20.Dst, .int .u64 r20.Src, .bool r20.Tag.Has, .int .i64 r20.Tag.Pri, .bool r20.Tag.Dei, .int .i64 r20.Tag.Vid, .int .i64 r20.Type_, .string r20.Body]), (59, .agg #[.int .u64 281474976710655, .int .u64 2, .bool false, .int .i64 0, .bool false, .int .i64 0, .int .i64 0, .string (⟨#[97, 98]⟩ : ByteArray)])]) (fun _ => [(b7, .cells #[.int .u64 r4.Dst, .int .u64 r4.Src, .bool r4.Tag.Has, .int .i64 r4.Tag.Pri, .bool r4.Tag.Dei, .int .i64 r4.Tag.Vid, .int .i64 r4.Type_, .string r4.Body] 26 (0, 0))]) (fun _ => []) (fun _ => by kernel_rfl) (fun _ => ?_)
        refine WL.val (fun _ => run_structEq (xs := #[.int .u64 r20.Dst, .int .u64 r20.Src, .bool r20.Tag.Has, .int .i64 r20.Tag.Pri, .bool r20.Tag.Dei, .int .i64 r20.Tag.Vid, .int .i64 r20.Type_, .string r20.Body]) (ys := #[.int .u64 281474976710655, .int .u64 2, .bool false, .int .i64 0, .bool false, .int .i64 0, .int .i64 0, .string (⟨#[97, 98]⟩ : ByteArray)]) (b := ((r20.Dst == 281474976710655) && ((r20.Src == 2) && (((r20.Tag.Has == false) && ((r20.Tag.Pri == 0) && ((r20.Tag.Dei == false) && ((r20.Tag.Vid == 0) && true)))) && ((r20.Type_ == 0) && ((r20.Body == (⟨#[97, 98]⟩ : ByteArray)) && true)))))) (by kernel_rfl) (by kernel_rfl) (by kernel_rfl) (by kernel_rfl)) (by kernel_rfl) (by kernel_rfl) rfl ?_
        refine WL.run 1 [] [0, 61] (fun _ => [(0, .bool false), (61, .bool ((r20.Dst == 281474976710655) && ((r20.Src == 2) && (((r20.Tag.Has == false) && ((r20.Tag.Pri == 0) && ((r20.Tag.Dei == false) && ((r20.Tag.Vid == 0) && true)))) && ((r20.Type_ == 0) && ((r20.Body == (⟨#[97, 98]⟩ : ByteArray)) && true))))))]) (fun _ => [(b7, .cells #[.int .u64 r4.Dst, .int .u64 r4.Src, .bool r4.Tag.Has, .int .i64 r4.Tag.Pri, .bool r4.Tag.Dei, .int .i64 r4.Tag.Vid, .int .i64 r4.Type_, .string r4.Body] 26 (0, 0))]) (fun _ => []) (fun _ => by kernel_rfl) (fun _ => ?_)
        exact WL.sub [0, 61] (by kernel_rfl) (WL.pick [] (by kernel_rfl) (by kernel_rfl) (K1 ((r20.Dst == 281474976710655) && ((r20.Src == 2) && (((r20.Tag.Has == false) && ((r20.Tag.Pri == 0) && ((r20.Tag.Dei == false) && ((r20.Tag.Vid == 0) && true)))) && ((r20.Type_ == 0) && ((r20.Body == (⟨#[97, 98]⟩ : ByteArray)) && true))))) hM))
      · replace hM := cond_f hM c19
        refine WL.run 5 [] [0, 61] (fun _ => [(0, .bool false), (61, .bool false)]) (fun _ => [(b7, .cells #[.int .u64 r4.Dst, .int .u64 r4.Src, .bool r4.Tag.Has, .int .i64 r4.Tag.Pri, .bool r4.Tag.Dei, .int .i64 r4.Tag.Vid, .int .i64 r4.Type_, .string r4.Body] 26 (0, 0))]) (fun _ => []) (fun _ => by kernel_rfl) (fun _ => ?_)
        exact WL.sub [0, 61] (by kernel_rfl) (WL.pick [] (by kernel_rfl) (by kernel_rfl) (K1 false hM))
  ·
    refine WL.split (fun b' => [(0, .bool false), (3, .pointer (some ⟨b7, 0, none⟩)), (4, .int .i64 r5), (6, .int .i64 r11), (8, .int .i64 r15), (38, .bool b')]) ((r1.toList == (⟨#[255, 255, 255, 255, 255, 255, 0, 0, 0, 0, 0, 2, 8, 6]⟩ : ByteArray).toList) && (r2 == 0)) (fun c17 => ?_) (fun c17 => ?_)
    · replace hM := cond_t hM c17
      refine WL.run 3 [0, 0, 0, 0, 0, 0, 0, 0] [0, 3, 4, 6, 8, 38, 39, 41] (fun _ => [(0, .bool false), (3, .pointer (some ⟨b7, 0, none⟩)), (4, .int .i64 r5), (6, .int .i64 r11), (8, .int .i64 r15), (38, .bool true), (39, .agg #[.int .u64 r4.Dst, .int .u64 r4.Src, .bool r4.Tag.Has, .int .i64 r4.Tag.Pri, .bool r4.Tag.Dei, .int .i64 r4.Tag.Vid, .int .i64 r4.Type_, .string r4.Body]), (41, .agg #[.int .u64 281474976710655, .int .u64 2, .bool true, .int .i64 2, .bool true, .int .i64 7, .int .i64 0, .string (⟨#[97, 98]⟩ : ByteArray)])]) (fun _ => [(b7, .cells #[.int .u64 r4.Dst, .int .u64 r4.Src, .bool r4.Tag.Has, .int .i64 r4.Tag.Pri, .bool r4.Tag.Dei, .int .i64 r4.Tag.Vid, .int .i64 r4.Type_, .string r4.Body] 26 (0, 0))]) (fun _ => [b7, b7, b7, b7, b7, b7, b7, b7]) (fun _ => by kernel_rfl) (fun _ => ?_)
      refine WL.val (fun _ => run_structEq (xs := #[.int .u64 r4.Dst, .int .u64 r4.Src, .bool r4.Tag.Has, .int .i64 r4.Tag.Pri, .bool r4.Tag.Dei, .int .i64 r4.Tag.Vid, .int .i64 r4.Type_, .string r4.Body]) (ys := #[.int .u64 281474976710655, .int .u64 2, .bool true, .int .i64 2, .bool true, .int .i64 7, .int .i64 0, .string (⟨#[97, 98]⟩ : ByteArray)]) (b := ((r4.Dst == 281474976710655) && ((r4.Src == 2) && (((r4.Tag.Has == true) && ((r4.Tag.Pri == 2) && ((r4.Tag.Dei == true) && ((r4.Tag.Vid == 7) && true)))) && ((r4.Type_ == 0) && ((r4.Body == (⟨#[97, 98]⟩ : ByteArray)) && true)))))) (by kernel_rfl) (by kernel_rfl) (by kernel_rfl) (by kernel_rfl)) (by kernel_rfl) (by kernel_rfl) rfl ?_
      refine WL.run 1 [] [0, 3, 4, 6, 8, 43] (fun _ => [(0, .bool false), (3, .pointer (some ⟨b7, 0, none⟩)), (4, .int .i64 r5), (6, .int .i64 r11), (8, .int .i64 r15), (43, .bool ((r4.Dst == 281474976710655) && ((r4.Src == 2) && (((r4.Tag.Has == true) && ((r4.Tag.Pri == 2) && ((r4.Tag.Dei == true) && ((r4.Tag.Vid == 7) && true)))) && ((r4.Type_ == 0) && ((r4.Body == (⟨#[97, 98]⟩ : ByteArray)) && true))))))]) (fun _ => [(b7, .cells #[.int .u64 r4.Dst, .int .u64 r4.Src, .bool r4.Tag.Has, .int .i64 r4.Tag.Pri, .bool r4.Tag.Dei, .int .i64 r4.Tag.Vid, .int .i64 r4.Type_, .string r4.Body] 26 (0, 0))]) (fun _ => []) (fun _ => by kernel_rfl) (fun _ => ?_)
      exact WL.sub [0, 3, 4, 6, 8, 43] (by kernel_rfl) (WL.pick [0] (by kernel_rfl) (by kernel_rfl) (K2 ((r4.Dst == 281474976710655) && ((r4.Src == 2) && (((r4.Tag.Has == true) && ((r4.Tag.Pri == 2) && ((r4.Tag.Dei == true) && ((r4.Tag.Vid == 7) && true)))) && ((r4.Type_ == 0) && ((r4.Body == (⟨#[97, 98]⟩ : ByteArray)) && true))))) hM))
    · replace hM := cond_f hM c17
      refine WL.run 5 [] [0, 3, 4, 6, 8, 43] (fun _ => [(0, .bool false), (3, .pointer (some ⟨b7, 0, none⟩)), (4, .int .i64 r5), (6, .int .i64 r11), (8, .int .i64 r15), (43, .bool false)]) (fun _ => [(b7, .cells #[.int .u64 r4.Dst, .int .u64 r4.Src, .bool r4.Tag.Has, .int .i64 r4.Tag.Pri, .bool r4.Tag.Dei, .int .i64 r4.Tag.Vid, .int .i64 r4.Type_, .string r4.Body] 26 (0, 0))]) (fun _ => []) (fun _ => by kernel_rfl) (fun _ => ?_)
      exact WL.sub [0, 3, 4, 6, 8, 43] (by kernel_rfl) (WL.pick [0] (by kernel_rfl) (by kernel_rfl) (K2 false hM))

end Go.Proofs.YtefbjefmclhhjaaDoor

namespace Go.Proofs.YtefbjefmclhhjaaDoor
open Go Eng
set_option linter.unusedVariables false
set_option linter.unusedSimpArgs false

/-! ### gangway/gangwaylaw04.EtherBack: function 4 -/
def gangwaylaw04_EtherBack.k2 (x25 : Bool) : Option (Bool) :=
  some x25

def gangwaylaw04_EtherBack.k3 (x40 : Bool) : Option (Bool) :=
  some x40

def gangwaylaw04_EtherBack.k4 (k : Nat) (x36 : Bool) : Option (Bool) :=
  bif x36 then
    (gangwaylaw04_fixed.f k).bind fun r38 =>
    gangwaylaw04_EtherBack.k3 r38
  else
    gangwaylaw04_EtherBack.k3 false

def gangwaylaw04_EtherBack.k5 (k : Nat) (r17 : api_Frame) (r26 : ByteArray) (t4 : ByteArray) (x34 : Bool) : Option (Bool) :=
  bif x34 then
    gangwaylaw04_EtherBack.k4 k ((r17.Type_ == 0) || (r26.toList == t4.toList))
  else
    gangwaylaw04_EtherBack.k4 k false

def gangwaylaw04_EtherBack.k6 (k : Nat) (t4 : ByteArray) : Option (Bool) :=
  (ether_Parse.f k t4).bind fun (r17, r18) =>
  bif (r18 != 0) then
    bif ((r17.Dst == 0) && ((r17.Src == 0) && (((r17.Tag.Has == false) && ((r17.Tag.Pri == 0) && ((r17.Tag.Dei == false) && ((r17.Tag.Vid == 0) && true)))) && ((r17.Type_ == 0) && ((r17.Body == (⟨#[]⟩ : ByteArray)) && true))))) then
      (gangwaylaw04_fixed.f k).bind fun r23 =>
      gangwaylaw04_EtherBack.k2 r23
    else
      gangwaylaw04_EtherBack.k2 false
  else
    (ether_Build.f k r17).bind fun (r26, r27) =>
    (ether_Check.f r17).bind fun r29 =>
    bif (((r29 == 0) && (r27 == 0)) && (decide ((r26.size : Int) ≤ (t4.size : Int)))) then
      (sliceS t4 0 (r26.size : Int)).bind fun t32 =>
      gangwaylaw04_EtherBack.k5 k r17 r26 t4 (r26.toList == t32.toList)
    else
      gangwaylaw04_EtherBack.k5 k r17 r26 t4 false

def gangwaylaw04_EtherBack.k1 (k : Nat) (t4 : ByteArray) (x15 : Bool) : Option (Bool) :=
  bif x15 then
    some false
  else
    gangwaylaw04_EtherBack.k6 k t4

def gangwaylaw04_EtherBack.f (k : Nat) (a0 : api_Frame) (a1 : ByteArray) : Option (Bool) :=
  (sliceS a0.Body 0 (imin (a0.Body.size : Int) 1700)).bind fun t2 =>
  (sliceS a1 0 (imin (a1.size : Int) 1700)).bind fun t4 =>
  (ether_Build.f k (api_Frame.mk a0.Dst a0.Src a0.Tag a0.Type_ t2)).bind fun (r6, r7) =>
  bif (r7 == 0) then
    (ether_Parse.f k r6).bind fun (r10, r11) =>
    bif (r11 != 0) then
      gangwaylaw04_EtherBack.k1 k t4 true
    else
      gangwaylaw04_EtherBack.k1 k t4 (!((r10.Dst == a0.Dst) && ((r10.Src == a0.Src) && (((r10.Tag.Has == a0.Tag.Has) && ((r10.Tag.Pri == a0.Tag.Pri) && ((r10.Tag.Dei == a0.Tag.Dei) && ((r10.Tag.Vid == a0.Tag.Vid) && true)))) && ((r10.Type_ == a0.Type_) && ((r10.Body == t2) && true))))))
  else
    gangwaylaw04_EtherBack.k6 k t4

set_option maxRecDepth 100000 in
theorem gangwaylaw04_EtherBack_calls (k : Nat) (a0 : api_Frame) (a1 : ByteArray) (r : Bool) (h : gangwaylaw04_EtherBack.f k a0 a1 = some r) : Pure Tryd.prog Glob 4 #[.agg #[.int .u64 a0.Dst, .int .u64 a0.Src, .bool a0.Tag.Has, .int .i64 a0.Tag.Pri, .bool a0.Tag.Dei, .int .i64 a0.Tag.Vid, .int .i64 a0.Type_, .string a0.Body], .string a1] (.bool r) := by
  intro w Z hS
  refine calls_of (args := [.agg #[.int .u64 a0.Dst, .int .u64 a0.Src, .bool a0.Tag.Has, .int .i64 a0.Tag.Pri, .bool a0.Tag.Dei, .int .i64 a0.Tag.Vid, .int .i64 a0.Type_, .string a0.Body], .string a1]) (L := [(0, .agg #[.int .u64 a0.Dst, .int .u64 a0.Src, .bool a0.Tag.Has, .int .i64 a0.Tag.Pri, .bool a0.Tag.Dei, .int .i64 a0.Tag.Vid, .int .i64 a0.Type_, .string a0.Body]), (1, .string a1)]) (N := 98) (S := Sat w Z [] [] Glob) Tryd.func4 rfl rfl (Nat.le_of_ble_eq_true rfl) rfl hS ?_
  have hM := h
  clear h hS
  unfold gangwaylaw04_EtherBack.f at hM
  refine WP.seq ?_
  refine WP.run [] [1, 2, 4] (fun b1 => [(1, .string a1), (2, .pointer (some ⟨b1, 0, none⟩)), (4, .bool false)]) (fun b1 => [(b1, .cells #[.int .u64 a0.Dst, .int .u64 a0.Src, .bool a0.Tag.Has, .int .i64 a0.Tag.Pri, .bool a0.Tag.Dei, .int .i64 a0.Tag.Vid, .int .i64 a0.Type_, .string a0.Body] 26 (0, 0))]) (fun b1 => []) (fun b1 => by kernel_rfl) (fun b1 => ?_)
  refine WP.seq ?_
  refine WP.region ?_
  refine WL.run 6 [0, 0] [1, 2, 4, 14, 18] (fun _ => [(1, .string a1), (2, .pointer (some ⟨b1, 0, none⟩)), (4, .bool false), (14, .string a0.Body), (18, .int .i64 (imin (a0.Body.size : Int) 1700))]) (fun _ => [(b1, .cells #[.int .u64 a0.Dst, .int .u64 a0.Src, .bool a0.Tag.Has, .int .i64 a0.Tag.Pri, .bool a0.Tag.Dei, .int .i64 a0.Tag.Vid, .int .i64 a0.Type_, .string a0.Body] 26 (0, 0))]) (fun _ => [b1, b1]) (fun _ => by kernel_rfl) (fun _ => ?_)
  obtain ⟨t2, h3, hM⟩ := bind_some hM
  refine WL.val (fun _ => run_sliceS_hi (s := a0.Body) (kh := .i64) (h := imin (a0.Body.size : Int) 1700) (by kernel_rfl) (by kernel_rfl) (by kernel_rfl) h3) (by kernel_rfl) (by kernel_rfl) rfl ?_
  refine WL.run 2 [0] [1, 2, 4] (fun _ => [(1, .string a1), (2, .pointer (some ⟨b1, 0, none⟩)), (4, .bool false)]) (fun _ => [(b1, .cells #[.int .u64 a0.Dst, .int .u64 a0.Src, .bool a0.Tag.Has, .int .i64 a0.Tag.Pri, .bool a0.Tag.Dei, .int .i64 a0.Tag.Vid, .int .i64 a0.Type_, .string t2] 26 (0, 0))]) (fun _ => [b1]) (fun _ => by kernel_rfl) (fun _ => ?_)
  refine WP.done ?_
  refine WP.seq ?_
  refine WP.region ?_
  refine WL.run 4 [] [1, 2, 4, 21, 24] (fun _ => [(1, .string a1), (2, .pointer (some ⟨b1, 0, none⟩)), (4, .bool false), (21, .string a1), (24, .int .i64 (imin (a1.size : Int) 1700))]) (fun _ => [(b1, .cells #[.int .u64 a0.Dst, .int .u64 a0.Src, .bool a0.Tag.Has, .int .i64 a0.Tag.Pri, .bool a0.Tag.Dei, .int .i64 a0.Tag.Vid, .int .i64 a0.Type_, .string t2] 26 (0, 0))]) (fun _ => []) (fun _ => by kernel_rfl) (fun _ => ?_)
  obtain ⟨t4, h5, hM⟩ := bind_some hM
  refine WL.val (fun _ => run_sliceS_hi (s := a1) (kh := .i64) (h := imin (a1.size : Int) 1700) (by kernel_rfl) (by kernel_rfl) (by kernel_rfl) h5) (by kernel_rfl) (by kernel_rfl) rfl ?_
  refine WL.run 1 [] [1, 2, 4] (fun _ => [(1, .string t4), (2, .pointer (some ⟨b1, 0, none⟩)), (4, .bool false)]) (fun _ => [(b1, .cells #[.int .u64 a0.Dst, .int .u64 a0.Src, .bool a0.Tag.Has, .int .i64 a0.Tag.Pri, .bool a0.Tag.Dei, .int .i64 a0.Tag.Vid, .int .i64 a0.Type_, .string t2] 26 (0, 0))]) (fun _ => []) (fun _ => by kernel_rfl) (fun _ => ?_)
  refine WP.done ?_
  refine WP.seq ?_
  refine WP.region ?_
  refine WL.run 1 [0, 0, 0, 0, 0, 0, 0, 0] [1, 2, 4, 27] (fun _ => [(1, .string t4), (2, .pointer (some ⟨b1, 0, none⟩)), (4, .bool false), (27, .agg #[.int .u64 a0.Dst, .int .u64 a0.Src, .bool a0.Tag.Has, .int .i64 a0.Tag.Pri, .bool a0.Tag.Dei, .int .i64 a0.Tag.Vid, .int .i64 a0.Type_, .string t2])]) (fun _ => [(b1, .cells #[.int .u64 a0.Dst, .int .u64 a0.Src, .bool a0.Tag.Has, .int .i64 a0.Tag.Pri, .bool a0.Tag.Dei, .int .i64 a0.Tag.Vid, .int .i64 a0.Type_, .string t2] 26 (0, 0))]) (fun _ => [b1, b1, b1, b1, b1, b1, b1, b1]) (fun _ => by kernel_rfl) (fun _ => ?_)
  obtain ⟨⟨r6, r7⟩, h8, hM⟩ := bind_some hM
  dsimp only at hM
  refine WL.callP [] [] (ether_Build_calls k (api_Frame.mk a0.Dst a0.Src a0.Tag a0.Type_ t2) _ h8) (fun _ h => h) (by kernel_rfl) (by kernel_rfl) rfl ?_
  refine WL.run 5 [] [1, 2, 4, 5, 6] (fun _ => [(1, .string t4), (2, .pointer (some ⟨b1, 0, none⟩)), (4, .bool false), (5, .string r6), (6, .int .i64 r7)]) (fun _ => [(b1, .cells #[.int .u64 a0.Dst, .int .u64 a0.Src, .bool a0.Tag.Has, .int .i64 a0.Tag.Pri, .bool a0.Tag.Dei, .int .i64 a0.Tag.Vid, .int .i64 a0.Type_, .string t2] 26 (0, 0))]) (fun _ => []) (fun _ => by kernel_rfl) (fun _ => ?_)
  refine WP.done ?_
  refine WP.seqJoin (σ := Unit) (fun st => gangwaylaw04_EtherBack.k6 k t4 = some r) (fun st => [(1, .string t4), (4, .bool false)]) (fun st => Sat w Z [] [] Glob) (fun st hM => ?_) (fun K6 => ?_)
  ·
    replace hM : gangwaylaw04_EtherBack.k6 k t4 = some r := hM
    unfold gangwaylaw04_EtherBack.k6 at hM
    show WP _ _ _ _ _ [(1, .string t4), (4, .bool false)] (Sat w Z [] [] Glob)
    refine WP.seq ?_
    refine WP.region ?_
    refine WL.run 1 [] [1, 4, 46] (fun _ => [(1, .string t4), (4, .bool false), (46, .string t4)]) (fun _ => []) (fun _ => []) (fun _ => by kernel_rfl) (fun _ => ?_)
    obtain ⟨⟨r17, r18⟩, h19, hM⟩ := bind_some hM
    dsimp only at hM
    refine WL.callP [] [] (ether_Parse_calls k t4 _ h19) (fun _ h => h) (by kernel_rfl) (by kernel_rfl) rfl ?_
    refine WL.run 6 [0, 0, 0, 0, 0, 0, 0, 0] [1, 4, 9, 10] (fun b20 => [(1, .string t4), (4, .bool false), (9, .pointer (some ⟨b20, 0, none⟩)), (10, .int .i64 r18)]) (fun b20 => [(b20, .cells #[.int .u64 r17.Dst, .int .u64 r17.Src, .bool r17.Tag.Has, .int .i64 r17.Tag.Pri, .bool r17.Tag.Dei, .int .i64 r17.Tag.Vid, .int .i64 r17.Type_, .string r17.Body] 26 (0, 0))]) (fun b20 => [b20, b20, b20, b20, b20, b20, b20, b20]) (fun b20 => by kernel_rfl) (fun b20 => ?_)
    refine WP.done ?_
    refine WP.seq ?_
    refine WP.seq ?_
    refine WP.run [] [1, 4, 9, 51] (fun _ => [(1, .string t4), (4, .bool false), (9, .pointer (some ⟨b20, 0, none⟩)), (51, .bool (r18 != 0))]) (fun _ => [(b20, .cells #[.int .u64 r17.Dst, .int .u64 r17.Src, .bool r17.Tag.Has, .int .i64 r17.Tag.Pri, .bool r17.Tag.Dei, .int .i64 r17.Tag.Vid, .int .i64 r17.Type_, .string r17.Body] 26 (0, 0))]) (fun _ => []) (fun _ => by kernel_rfl) (fun _ => ?_)
    refine WP.cond (r18 != 0) rfl rfl (fun c21 => ?_) (fun c21 => ?_)
    · replace hM := cond_t hM c21
      refine WP.seq ?_
      refine WP.region ?_
      refine WL.run 2 [0, 0, 0, 0, 0, 0, 0, 0] [1, 4, 9, 52, 53] (fun _ => [(1, .string t4), (4, .bool false), (9, .pointer (some ⟨b20, 0, none⟩)), (52, .agg #[.int .u64 r17.Dst, .int .u64 r17.Src, .bool r17.Tag.Has, .int .i64 r17.Tag.Pri, .bool r17.Tag.Dei, .int .i64 r17.Tag.Vid, .int .i64 r17.Type_, .string r17.Body]), (53, .agg #[.int .u64 0, .int .u64 0, .bool false, .int .i64 0, .bool false, .int .i64 0, .int .i64 0, .string (⟨#[]⟩ : ByteArray)])]) (fun _ => [(b20, .cells #[.int .u64 r17.Dst, .int .u64 r17.Src, .bool r17.Tag.Has, .int .i64 r17.Tag.Pri, .bool r17.Tag.Dei, .int .i64 r17.Tag.Vid, .int .i64 r17.Type_, .string r17.Body] 26 (0, 0))]) (fun _ => [b20, b20, b20, b20, b20, b20, b20, b20]) (fun _ => by kernel_rfl) (fun _ => ?_)
      refine WL.val (fun _ => run_structEq (xs := #[.int .u64 r17.Dst, .int .u64 r17.Src, .bool r17.Tag.Has, .int .i64 r17.Tag.Pri, .bool r17.Tag.Dei, .int .i64 r17.Tag.Vid, .int .i64 r17.Type_, .string r17.Body]) (ys := #[.int .u64 0, .int .u64 0, .bool false, .int .i64 0, .bool false, .int .i64 0, .int .i64 0, .string (⟨#[]⟩ : ByteArray)]) (b := ((r17.Dst == 0) && ((r17.Src == 0) && (((r17.Tag.Has == false) && ((r17.Tag.Pri == 0) && ((r17.Tag.Dei == false) && ((r17.Tag.Vid == 0) && true)))) && ((r17.Type_ == 0) && ((r17.Body == (⟨#[]⟩ : ByteArray)) && true)))))) (by kernel_rfl) (by kernel_rfl) (by kernel_rfl) (by kernel_rfl)) (by kernel_rfl) (by kernel_rfl) rfl ?_
      refine WL.run 1 [] [1, 4, 9, 55] (fun _ => [(1, .string t4), (4, .bool false), (9, .pointer (some ⟨b20, 0, none⟩)), (55, .bool ((r17.Dst == 0) && ((r17.Src == 0) && (((r17.Tag.Has == false) && ((r17.Tag.Pri == 0) && ((r17.Tag.Dei == false) && ((r17.Tag.Vid == 0) && true)))) && ((r17.Type_ == 0) && ((r17.Body == (⟨#[]⟩ : ByteArray)) && true))))))]) (fun _ => [(b20, .cells #[.int .u64 r17.Dst, .int .u64 r17.Src, .bool r17.Tag.Has, .int .i64 r17.Tag.Pri, .bool r17.Tag.Dei, .int .i64 r17.Tag.Vid, .int .i64 r17.Type_, .string r17.Body] 26 (0, 0))]) (fun _ => []) (fun _ => by kernel_rfl) (fun _ => ?_)
      refine WL.sub [1, 4, 9, 55] (L' := [(1, .string t4), (4, .bool false), (9, .pointer (some ⟨b20, 0, none⟩)), (55, .bool ((r17.Dst == 0) && ((r17.Src == 0) && (((r17.Tag.Has == false) && ((r17.Tag.Pri == 0) && ((r17.Tag.Dei == false) && ((r17.Tag.Vid == 0) && true)))) && ((r17.Type_ == 0) && ((r17.Body == (⟨#[]⟩ : ByteArray)) && true))))))]) (by kernel_rfl) ?_
      refine WL.join (σ := Bool) 2 (fun st => gangwaylaw04_EtherBack.k2 st = some r) (fun st => [(1, .string t4), (4, .bool false), (9, .pointer (some ⟨b20, 0, none⟩)), (57, .bool st)]) (fun st => Sat w Z [(b20, .cells #[.int .u64 r17.Dst, .int .u64 r17.Src, .bool r17.Tag.Has, .int .i64 r17.Tag.Pri, .bool r17.Tag.Dei, .int .i64 r17.Tag.Vid, .int .i64 r17.Type_, .string r17.Body] 26 (0, 0))] [] Glob) (fun st hM => ?_) (fun K2 => ?_)
      ·
        obtain ⟨x25, rfl⟩ : ∃ y, y = st := ⟨st, rfl⟩
        replace hM : gangwaylaw04_EtherBack.k2 x25 = some r := hM
        unfold gangwaylaw04_EtherBack.k2 at hM
        show WL _ _ _ _ _ [(1, .string t4), (4, .bool false), (9, .pointer (some ⟨b20, 0, none⟩)), (57, .bool x25)] (Sat w Z [(b20, .cells #[.int .u64 r17.Dst, .int .u64 r17.Src, .bool r17.Tag.Has, .int .i64 r17.Tag.Pri, .bool r17.Tag.Dei, .int .i64 r17.Tag.Vid, .int .i64 r17.Type_, .string r17.Body] 26 (0, 0))] [] Glob)
        refine WL.run 1 [] [1, 4, 9] (fun _ => [(1, .string t4), (4, .bool x25), (9, .pointer (some ⟨b20, 0, none⟩))]) (fun _ => [(b20, .cells #[.int .u64 r17.Dst, .int .u64 r17.Src, .bool r17.Tag.Has, .int .i64 r17.Tag.Pri, .bool r17.Tag.Dei, .int .i64 r17.Tag.Vid, .int .i64 r17.Type_, .string r17.Body] 26 (0, 0))]) (fun _ => []) (fun _ => by kernel_rfl) (fun _ => ?_)
        refine WP.done ?_
        obtain rfl := Option.some.inj hM
        exact WP.ret [] [] (.bool x25) (by kernel_rfl) (fun w' hw => ⟨rfl, hw.pick [] rfl⟩)
      ·
        refine WL.split (fun b' => [(1, .string t4), (4, .bool false), (9, .pointer (some ⟨b20, 0, none⟩)), (55, .bool b')]) ((r17.Dst == 0) && ((r17.Src == 0) && (((r17.Tag.Has == false) && ((r17.Tag.Pri == 0) && ((r17.Tag.Dei == false) && ((r17.Tag.Vid == 0) && true)))) && ((r17.Type_ == 0) && ((r17.Body == (⟨#[]⟩ : ByteArray)) && true))))) (fun c22 => ?_) (fun c22 => ?_)
        · replace hM := cond_t hM c22
          obtain ⟨r23, h24, hM⟩ := bind_some hM
          refine WL.callP [] [] (gangwaylaw04_fixed_calls k _ h24) (fun _ h => h) (by kernel_rfl) (by kernel_rfl) rfl ?_
          refine WL.run 1 [] [1, 4, 9, 57] (fun _ => [(1, .string t4), (4, .bool false), (9, .pointer (some ⟨b20, 0, none⟩)), (57, .bool r23)]) (fun _ => [(b20, .cells #[.int .u64 r17.Dst, .int .u64 r17.Src, .bool r17.Tag.Has, .int .i64 r17.Tag.Pri, .bool r17.Tag.Dei, .int .i64 r17.Tag.Vid, .int .i64 r17.Type_, .string r17.Body] 26 (0, 0))]) (fun _ => []) (fun _ => by kernel_rfl) (fun _ => ?_)
          exact WL.sub [1, 4, 9, 57] (by kernel_rfl) (WL.pick [0] (by kernel_rfl) (by kernel_rfl) (K2 r23 hM))
        · replace hM := cond_f hM c22
          refine WL.run 2 [] [1, 4, 9, 57] (fun _ => [(1, .string t4), (4, .bool false), (9, .pointer (some ⟨b20, 0, none⟩)), (57, .bool false)]) (fun _ => [(b20, .cells #[.int .u64 r17.Dst, .int .u64 r17.Src, .bool r17.Tag.Has, .int .i64 r17.Tag.Pri, .bool r17.Tag.Dei, .int .i64 r17.Tag.Vid, .int .i64 r17.Type_, .string r17.Body] 26 (0, 0))]) (fun _ => []) (fun _ => by kernel_rfl) (fun _ => ?_)
          exact WL.sub [1, 4, 9, 57] (by kernel_rfl) (WL.pick [0] (by kernel_rfl) (by kernel_rfl) (K2 false hM))
    · replace hM := cond_f hM c21
      refine WP.skip ?_
      refine WP.seq ?_
      refine WP.region ?_
      refine WL.run 1 [0, 0, 0, 0, 0, 0, 0, 0] [1, 4, 9, 59] (fun _ => [(1, .string t4), (4, .bool false), (9, .pointer (some ⟨b20, 0, none⟩)), (59, .agg #[.int .u64 r17.Dst, .int .u64 r17.Src, .bool r17.Tag.Has, .int .i64 r17.Tag.Pri, .bool r17.Tag.Dei, .int .i64 r17.Tag.Vid, .int .i64 r17.Type_, .string r17.Body])]) (fun _ => [(b20, .cells #[.int .u64 r17.Dst, .int .u64 r17.Src, .bool r17.Tag.Has, .int .i64 r17.Tag.Pri, .bool r17.Tag.Dei, .int .i64 r17.Tag.Vid, .int .i64 r17.Type_, .string r17.Body] 26 (0, 0))]) (fun _ => [b20, b20, b20, b20, b20, b20, b20, b20]) (fun _ => by kernel_rfl) (fun _ => ?_)
      obtain ⟨⟨r26, r27⟩, h28, hM⟩ := bind_some hM
      dsimp only at hM
      refine WL.callP [] [] (ether_Build_calls k r17 _ h28) (fun _ h => h) (by kernel_rfl) (by kernel_rfl) rfl ?_
      refine WL.run 5 [] [1, 4, 9, 11, 12] (fun _ => [(1, .string t4), (4, .bool false), (9, .pointer (some ⟨b20, 0, none⟩)), (11, .string r26), (12, .int .i64 r27)]) (fun _ => [(b20, .cells #[.int .u64 r17.Dst, .int .u64 r17.Src, .bool r17.Tag.Has, .int .i64 r17.Tag.Pri, .bool r17.Tag.Dei, .int .i64 r17.Tag.Vid, .int .i64 r17.Type_, .string r17.Body] 26 (0, 0))]) (fun _ => []) (fun _ => by kernel_rfl) (fun _ => ?_)
      refine WP.done ?_
      refine WP.seq ?_
      refine WP.region ?_
      refine WL.run 1 [0, 0, 0, 0, 0, 0, 0, 0] [1, 4, 9, 11, 12, 63] (fun _ => [(1, .string t4), (4, .bool false), (9, .pointer (some ⟨b20, 0, none⟩)), (11, .string r26), (12, .int .i64 r27), (63, .agg #[.int .u64 r17.Dst, .int .u64 r17.Src, .bool r17.Tag.Has, .int .i64 r17.Tag.Pri, .bool r17.Tag.Dei, .int .i64 r17.Tag.Vid, .int .i64 r17.Type_, .string r17.Body])]) (fun _ => [(b20, .cells #[.int .u64 r17.Dst, .int .u64 r17.Src, .bool r17.Tag.Has, .int .i64 r17.Tag.Pri, .bool r17.Tag.Dei, .int .i64 r17.Tag.Vid, .int .i64 r17.Type_, .string r17.Body] 26 (0, 0))]) (fun _ => [b20, b20, b20, b20, b20, b20, b20, b20]) (fun _ => by kernel_rfl) (fun _ => ?_)
      obtain ⟨r29, h30, hM⟩ := bind_some hM
      refine WL.callP [] [] (ether_Check_calls r17 _ h30) (fun _ h => h) (by kernel_rfl) (by kernel_rfl) rfl ?_
      refine WL.run 2 [] [1, 4, 9, 11, 12, 66] (fun _ => [(1, .string t4), (4, .bool false), (9, .pointer (some ⟨b20, 0, none⟩)), (11, .string r26), (12, .int .i64 r27), (66, .bool (r29 == 0))]) (fun _ => [(b20, .cells #[.int .u64 r17.Dst, .int .u64 r17.Src, .bool r17.Tag.Has, .int .i64 r17.Tag.Pri, .bool r17.Tag.Dei, .int .i64 r17.Tag.Vid, .int .i64 r17.Type_, .string r17.Body] 26 (0, 0))]) (fun _ => []) (fun _ => by kernel_rfl) (fun _ => ?_)
      refine WL.sub [1, 4, 9, 11, 12, 66] (L' := [(1, .string t4), (4, .bool false), (9, .pointer (some ⟨b20, 0, none⟩)), (11, .string r26), (12, .int .i64 r27), (66, .bool (r29 == 0))]) (by kernel_rfl) ?_
      refine WL.both (fun b' => [(1, .string t4), (4, .bool false), (9, .pointer (some ⟨b20, 0, none⟩)), (11, .string r26), (12, .int .i64 r27), (66, .bool b')]) (r29 == 0) 3 [] [] [1, 4, 9, 11, 69] (fun b' => [(1, .string t4), (4, .bool false), (9, .pointer (some ⟨b20, 0, none⟩)), (11, .string r26), (69, .bool (b' && (r27 == 0)))]) [] [] (fun _ => by kernel_rfl) (fun _ => by kernel_rfl) ?_
      refine WL.run 1 [] [1, 4, 9, 11, 70] (fun _ => [(1, .string t4), (4, .bool false), (9, .pointer (some ⟨b20, 0, none⟩)), (11, .string r26), (70, .bool ((r29 == 0) && (r27 == 0)))]) (fun _ => [(b20, .cells #[.int .u64 r17.Dst, .int .u64 r17.Src, .bool r17.Tag.Has, .int .i64 r17.Tag.Pri, .bool r17.Tag.Dei, .int .i64 r17.Tag.Vid, .int .i64 r17.Type_, .string r17.Body] 26 (0, 0))]) (fun _ => []) (fun _ => by kernel_rfl) (fun _ => ?_)
      refine WL.sub [1, 4, 9, 11, 70] (L' := [(1, .string t4), (4, .bool false), (9, .pointer (some ⟨b20, 0, none⟩)), (11, .string r26), (70, .bool ((r29 == 0) && (r27 == 0)))]) (by kernel_rfl) ?_
      refine WL.both (fun b' => [(1, .string t4), (4, .bool false), (9, .pointer (some ⟨b20, 0, none⟩)), (11, .string r26), (70, .bool b')]) ((r29 == 0) && (r27 == 0)) 6 [] [] [1, 4, 9, 11, 76] (fun b' => [(1, .string t4), (4, .bool false), (9, .pointer (some ⟨b20, 0, none⟩)), (11, .string r26), (76, .bool (b' && (decide ((r26.size : Int) ≤ (t4.size : Int)))))]) [] [] (fun _ => by kernel_rfl) (fun _ => by kernel_rfl) ?_
      refine WL.run 1 [] [1, 4, 9, 11, 77] (fun _ => [(1, .string t4), (4, .bool false), (9, .pointer (some ⟨b20, 0, none⟩)), (11, .string r26), (77, .bool (((r29 == 0) && (r27 == 0)) && (decide ((r26.size : Int) ≤ (t4.size : Int)))))]) (fun _ => [(b20, .cells #[.int .u64 r17.Dst, .int .u64 r17.Src, .bool r17.Tag.Has, .int .i64 r17.Tag.Pri, .bool r17.Tag.Dei, .int .i64 r17.Tag.Vid, .int .i64 r17.Type_, .string r17.Body] 26 (0, 0))]) (fun _ => []) (fun _ => by kernel_rfl) (fun _ => ?_)
      refine WL.sub [1, 4, 9, 11, 77] (L' := [(1, .string t4), (4, .bool false), (9, .pointer (some ⟨b20, 0, none⟩)), (11, .string r26), (77, .bool (((r29 == 0) && (r27 == 0)) && (decide ((r26.size : Int) ≤ (t4.size : Int)))))]) (by kernel_rfl) ?_
      refine WL.join (σ := Bool) 7 (fun st => gangwaylaw04_EtherBack.k5 k r17 r26 t4 st = some r) (fun st => [(1, .string t4), (4, .bool false), (9, .pointer (some ⟨b20, 0, none⟩)), (11, .string r26), (84, .bool st)]) (fun st => Sat w Z [(b20, .cells #[.int .u64 r17.Dst, .int .u64 r17.Src, .bool r17.Tag.Has, .int .i64 r17.Tag.Pri, .bool r17.Tag.Dei, .int .i64 r17.Tag.Vid, .int .i64 r17.Type_, .string r17.Body] 26 (0, 0))] [] Glob) (fun st hM => ?_) (fun K5 => ?_)
      ·
        obtain ⟨x34, rfl⟩ : ∃ y, y = st := ⟨st, rfl⟩
        replace hM : gangwaylaw04_EtherBack.k5 k r17 r26 t4 x34 = some r := hM
        unfold gangwaylaw04_EtherBack.k5 at hM
        show WL _ _ _ _ _ [(1, .string t4), (4, .bool false), (9, .pointer (some ⟨b20, 0, none⟩)), (11, .string r26), (84, .bool x34)] (Sat w Z [(b20, .cells #[.int .u64 r17.Dst, .int .u64 r17.Src, .bool r17.Tag.Has, .int .i64 r17.Tag.Pri, .bool r17.Tag.Dei, .int .i64 r17.Tag.Vid, .int .i64 r17.Type_, .string r17.Body] 26 (0, 0))] [] Glob)
        refine WL.run 1 [] [1, 4, 9, 11, 85] (fun _ => [(1, .string t4), (4, .bool false), (9, .pointer (some ⟨b20, 0, none⟩)), (11, .string r26), (85, .bool x34)]) (fun _ => [(b20, .cells #[.int .u64 r17.Dst, .int .u64 r17.Src, .bool r17.Tag.Has, .int .i64 r17.Tag.Pri, .bool r17.Tag.Dei, .int .i64 r17.Tag.Vid, .int .i64 r17.Type_, .string r17.Body] 26 (0, 0))]) (fun _ => []) (fun _ => by kernel_rfl) (fun _ => ?_)
        refine WL.sub [1, 4, 9, 11, 85] (L' := [(1, .string t4), (4, .bool false), (9, .pointer (some ⟨b20, 0, none⟩)), (11, .string r26), (85, .bool x34)]) (by kernel_rfl) ?_
        refine WL.join (σ := Bool) 9 (fun st => gangwaylaw04_EtherBack.k4 k st = some r) (fun st => [(4, .bool false), (94, .bool st)]) (fun st => Sat w Z [] [] Glob) (fun st hM => ?_) (fun K4 => ?_)
        ·
          obtain ⟨x36, rfl⟩ : ∃ y, y = st := ⟨st, rfl⟩
          replace hM : gangwaylaw04_EtherBack.k4 k x36 = some r := hM
          unfold gangwaylaw04_EtherBack.k4 at hM
          show WL _ _ _ _ _ [(4, .bool false), (94, .bool x36)] (Sat w Z [] [] Glob)
          refine WL.run 1 [] [4, 95] (fun _ => [(4, .bool false), (95, .bool x36)]) (fun _ => []) (fun _ => []) (fun _ => by kernel_rfl) (fun _ => ?_)
          refine WL.sub [4, 95] (L' := [(4, .bool false), (95, .bool x36)]) (by kernel_rfl) ?_
          refine WL.join (σ := Bool) 2 (fun st => gangwaylaw04_EtherBack.k3 st = some r) (fun st => [(4, .bool false), (97, .bool st)]) (fun st => Sat w Z [] [] Glob) (fun st hM => ?_) (fun K3 => ?_)
          ·
            obtain ⟨x40, rfl⟩ : ∃ y, y = st := ⟨st, rfl⟩
            replace hM : gangwaylaw04_EtherBack.k3 x40 = some r := hM
            unfold gangwaylaw04_EtherBack.k3 at hM
            show WL _ _ _ _ _ [(4, .bool false), (97, .bool x40)] (Sat w Z [] [] Glob)
            refine WL.run 1 [] [4] (fun _ => [(4, .bool x40)]) (fun _ => []) (fun _ => []) (fun _ => by kernel_rfl) (fun _ => ?_)
            refine WP.done ?_
            obtain rfl := Option.some.inj hM
            exact WP.ret [] [] (.bool x40) (by kernel_rfl) (fun w' hw => ⟨rfl, hw.pick [] rfl⟩)
          ·
            refine WL.split (fun b' => [(4, .bool false), (95, .bool b')]) x36 (fun c37 => ?_) (fun c37 => ?_)
            · replace hM := cond_t hM c37
              obtain ⟨r38, h39, hM⟩ := bind_some hM
              refine WL.callP [] [] (gangwaylaw04_fixed_calls k _ h39) (fun _ h => h) (by kernel_rfl) (by kernel_rfl) rfl ?_
              refine WL.run 1 [] [4, 97] (fun _ => [(4, .bool false), (97, .bool r38)]) (fun _ => []) (fun _ => []) (fun _ => by kernel_rfl) (fun _ => ?_)
              exact WL.sub [4, 97] (by kernel_rfl) (WL.pick [] (by kernel_rfl) (by kernel_rfl) (K3 r38 hM))
            · replace hM := cond_f hM c37
              refine WL.run 2 [] [4, 97] (fun _ => [(4, .bool false), (97, .bool false)]) (fun _ => []) (fun _ => []) (fun _ => by kernel_rfl) (fun _ => ?_)
              exact WL.sub [4, 97] (by kernel_rfl) (WL.pick [] (by kernel_rfl) (by kernel_rfl) (K3 false hM))
        ·
          refine WL.split (fun b' => [(1, .string t4), (4, .bool false), (9, .pointer (some ⟨b20, 0, none⟩)), (11, .string r26), (85, .bool b')]) x34 (fun c35 => ?_) (fun c35 => ?_)
          · replace hM := cond_t hM c35
            refine WL.run 4 [0] [1, 4, 11, 85, 89] (fun _ => [(1, .string t4), (4, .bool false), (11, .string r26), (85, .bool true), (89, .bool (r17.Type_ == 0))]) (fun _ => [(b20, .cells #[.int .u64 r17.Dst, .int .u64 r17.Src, .bool r17.Tag.Has, .int .i64 r17.Tag.Pri, .bool r17.Tag.Dei, .int .i64 r17.Tag.Vid, .int .i64 r17.Type_, .string r17.Body] 26 (0, 0))]) (fun _ => [b20]) (fun _ => by kernel_rfl) (fun _ => ?_)
            refine WL.sub [1, 4, 11, 85, 89] (L' := [(1, .string t4), (4, .bool false), (11, .string r26), (85, .bool true), (89, .bool (r17.Type_ == 0))]) (by kernel_rfl) ?_
            refine WL.both (fun b' => [(1, .string t4), (4, .bool false), (11, .string r26), (85, .bool true), (89, .bool b')]) (r17.Type_ == 0) 4 [] [] [4, 85, 93] (fun b' => [(4, .bool false), (85, .bool true), (93, .bool (b' || (r26.toList == t4.toList)))]) [] [] (fun _ => by kernel_rfl) (fun _ => by kernel_rfl) ?_
            refine WL.run 1 [] [4, 94] (fun _ => [(4, .bool false), (94, .bool ((r17.Type_ == 0) || (r26.toList == t4.toList)))]) (fun _ => [(b20, .cells #[.int .u64 r17.Dst, .int .u64 r17.Src, .bool r17.Tag.Has, .int .i64 r17.Tag.Pri, .bool r17.Tag.Dei, .int .i64 r17.Tag.Vid, .int .i64 r17.Type_, .string r17.Body] 26 (0, 0))]) (fun _ => []) (fun _ => by kernel_rfl) (fun _ => ?_)
            exact WL.sub [4, 94] (by kernel_rfl) (WL.pick [] (by kernel_rfl) (by kernel_rfl) (K4 ((r17.Type_ == 0) || (r26.toList == t4.toList)) hM))
          · replace hM := cond_f hM c35
            refine WL.run 9 [] [4, 94] (fun _ => [(4, .bool false), (94, .bool false)]) (fun _ => [(b20, .cells #[.int .u64 r17.Dst, .int .u64 r17.Src, .bool r17.Tag.Has, .int .i64 r17.Tag.Pri, .bool r17.Tag.Dei, .int .i64 r17.Tag.Vid, .int .i64 r17.Type_, .string r17.Body] 26 (0, 0))]) (fun _ => []) (fun _ => by kernel_rfl) (fun _ => ?_)
            exact WL.sub [4, 94] (by kernel_rfl) (WL.pick [] (by kernel_rfl) (by kernel_rfl) (K4 false hM))
      ·
        refine WL.split (fun b' => [(1, .string t4), (4, .bool false), (9, .pointer (some ⟨b20, 0, none⟩)), (11, .string r26), (77, .bool b')]) (((r29 == 0) && (r27 == 0)) && (decide ((r26.size : Int) ≤ (t4.size : Int)))) (fun c31 => ?_) (fun c31 => ?_)
        · replace hM := cond_t hM c31
          refine WL.run 4 [] [1, 4, 9, 11, 77, 78, 79, 81] (fun _ => [(1, .string t4), (4, .bool false), (9, .pointer (some ⟨b20, 0, none⟩)), (11, .string r26), (77, .bool true), (78, .string r26), (79, .string t4), (81, .int .i64 (r26.size : Int))]) (fun _ => [(b20, .cells #[.int .u64 r17.Dst, .int .u64 r17.Src, .bool r17.Tag.Has, .int .i64 r17.Tag.Pri, .bool r17.Tag.Dei, .int .i64 r17.Tag.Vid, .int .i64 r17.Type_, .string r17.Body] 26 (0, 0))]) (fun _ => []) (fun _ => by kernel_rfl) (fun _ => ?_)
          obtain ⟨t32, h33, hM⟩ := bind_some hM
          refine WL.val (fun _ => run_sliceS_hi (s := t4) (kh := .i64) (h := (r26.size : Int)) (by kernel_rfl) (by kernel_rfl) (by kernel_rfl) h33) (by kernel_rfl) (by kernel_rfl) rfl ?_
          refine WL.run 2 [] [1, 4, 9, 11, 84] (fun _ => [(1, .string t4), (4, .bool false), (9, .pointer (some ⟨b20, 0, none⟩)), (11, .string r26), (84, .bool (r26.toList == t32.toList))]) (fun _ => [(b20, .cells #[.int .u64 r17.Dst, .int .u64 r17.Src, .bool r17.Tag.Has, .int .i64 r17.Tag.Pri, .bool r17.Tag.Dei, .int .i64 r17.Tag.Vid, .int .i64 r17.Type_, .string r17.Body] 26 (0, 0))]) (fun _ => []) (fun _ => by kernel_rfl) (fun _ => ?_)
          exact WL.sub [1, 4, 9, 11, 84] (by kernel_rfl) (WL.pick [0] (by kernel_rfl) (by kernel_rfl) (K5 (r26.toList == t32.toList) hM))
        · replace hM := cond_f hM c31
          refine WL.run 7 [] [1, 4, 9, 11, 84] (fun _ => [(1, .string t4), (4, .bool false), (9, .pointer (some ⟨b20, 0, none⟩)), (11, .string r26), (84, .bool false)]) (fun _ => [(b20, .cells #[.int .u64 r17.Dst, .int .u64 r17.Src, .bool r17.Tag.Has, .int .i64 r17.Tag.Pri, .bool r17.Tag.Dei, .int .i64 r17.Tag.Vid, .int .i64 r17.Type_, .string r17.Body] 26 (0, 0))]) (fun _ => []) (fun _ => by kernel_rfl) (fun _ => ?_)
          exact WL.sub [1, 4, 9, 11, 84] (by kernel_rfl) (WL.pick [0] (by kernel_rfl) (by kernel_rfl) (K5 false hM))
  ·
    refine WP.seq ?_
    refine WP.run [] [1, 2, 4, 5, 32] (fun _ => [(1, .string t4), (2, .pointer (some ⟨b1, 0, none⟩)), (4, .bool false), (5, .string r6), (32, .bool (r7 == 0))]) (fun _ => [(b1, .cells #[.int .u64 a0.Dst, .int .u64 a0.Src, .bool a0.Tag.Has, .int .i64 a0.Tag.Pri, .bool a0.Tag.Dei, .int .i64 a0.Tag.Vid, .int .i64 a0.Type_, .string t2] 26 (0, 0))]) (fun _ => []) (fun _ => by kernel_rfl) (fun _ => ?_)
    refine WP.cond (r7 == 0) rfl rfl (fun c9 => ?_) (fun c9 => ?_)
    · replace hM := cond_t hM c9
      refine WP.seq ?_
      refine WP.region ?_
      refine WL.run 1 [] [1, 2, 4, 34] (fun _ => [(1, .string t4), (2, .pointer (some ⟨b1, 0, none⟩)), (4, .bool false), (34, .string r6)]) (fun _ => [(b1, .cells #[.int .u64 a0.Dst, .int .u64 a0.Src, .bool a0.Tag.Has, .int .i64 a0.Tag.Pri, .bool a0.Tag.Dei, .int .i64 a0.Tag.Vid, .int .i64 a0.Type_, .string t2] 26 (0, 0))]) (fun _ => []) (fun _ => by kernel_rfl) (fun _ => ?_)
      obtain ⟨⟨r10, r11⟩, h12, hM⟩ := bind_some hM
      dsimp only at hM
      refine WL.callP [] [] (ether_Parse_calls k r6 _ h12) (fun _ h => h) (by kernel_rfl) (by kernel_rfl) rfl ?_
      refine WL.run 6 [1, 1, 1, 1, 1, 1, 1, 1] [1, 2, 4, 7, 8] (fun b13 => [(1, .string t4), (2, .pointer (some ⟨b1, 0, none⟩)), (4, .bool false), (7, .pointer (some ⟨b13, 0, none⟩)), (8, .int .i64 r11)]) (fun b13 => [(b1, .cells #[.int .u64 a0.Dst, .int .u64 a0.Src, .bool a0.Tag.Has, .int .i64 a0.Tag.Pri, .bool a0.Tag.Dei, .int .i64 a0.Tag.Vid, .int .i64 a0.Type_, .string t2] 26 (0, 0)), (b13, .cells #[.int .u64 r10.Dst, .int .u64 r10.Src, .bool r10.Tag.Has, .int .i64 r10.Tag.Pri, .bool r10.Tag.Dei, .int .i64 r10.Tag.Vid, .int .i64 r10.Type_, .string r10.Body] 26 (0, 0))]) (fun b13 => [b13, b13, b13, b13, b13, b13, b13, b13]) (fun b13 => by kernel_rfl) (fun b13 => ?_)
      refine WP.done ?_
      refine WP.seq ?_
      refine WP.region ?_
      refine WL.run 3 [] [1, 2, 4, 7, 40] (fun _ => [(1, .string t4), (2, .pointer (some ⟨b1, 0, none⟩)), (4, .bool false), (7, .pointer (some ⟨b13, 0, none⟩)), (40, .bool (r11 != 0))]) (fun _ => [(b1, .cells #[.int .u64 a0.Dst, .int .u64 a0.Src, .bool a0.Tag.Has, .int .i64 a0.Tag.Pri, .bool a0.Tag.Dei, .int .i64 a0.Tag.Vid, .int .i64 a0.Type_, .string t2] 26 (0, 0)), (b13, .cells #[.int .u64 r10.Dst, .int .u64 r10.Src, .bool r10.Tag.Has, .int .i64 r10.Tag.Pri, .bool r10.Tag.Dei, .int .i64 r10.Tag.Vid, .int .i64 r10.Type_, .string r10.Body] 26 (0, 0))]) (fun _ => []) (fun _ => by kernel_rfl) (fun _ => ?_)
      refine WL.sub [1, 2, 4, 7, 40] (L' := [(1, .string t4), (2, .pointer (some ⟨b1, 0, none⟩)), (4, .bool false), (7, .pointer (some ⟨b13, 0, none⟩)), (40, .bool (r11 != 0))]) (by kernel_rfl) ?_
      refine WL.join (σ := Bool) 4 (fun st => gangwaylaw04_EtherBack.k1 k t4 st = some r) (fun st => [(1, .string t4), (4, .bool false), (44, .bool st)]) (fun st => Sat w Z [] [] Glob) (fun st hM => ?_) (fun K1 => ?_)
      ·
        obtain ⟨x15, rfl⟩ : ∃ y, y = st := ⟨st, rfl⟩
        replace hM : gangwaylaw04_EtherBack.k1 k t4 x15 = some r := hM
        unfold gangwaylaw04_EtherBack.k1 at hM
        show WL _ _ _ _ _ [(1, .string t4), (4, .bool false), (44, .bool x15)] (Sat w Z [] [] Glob)
        refine WP.done ?_
        refine WP.cond x15 rfl rfl (fun c16 => ?_) (fun c16 => ?_)
        · replace hM := cond_t hM c16
          refine WP.seq ?_
          refine WP.run [] [1, 4] (fun _ => [(1, .string t4), (4, .bool false)]) (fun _ => []) (fun _ => []) (fun _ => by kernel_rfl) (fun _ => ?_)
          obtain rfl := Option.some.inj hM
          exact WP.ret [] [] (.bool false) (by kernel_rfl) (fun w' hw => ⟨rfl, hw.pick [] rfl⟩)
        · replace hM := cond_f hM c16
          refine WP.skip ?_
          exact WP.sub [1, 4] (by kernel_rfl) (WP.pick [] (by kernel_rfl) (by kernel_rfl) (K6 () hM))
      ·
        refine WL.split (fun b' => [(1, .string t4), (2, .pointer (some ⟨b1, 0, none⟩)), (4, .bool false), (7, .pointer (some ⟨b13, 0, none⟩)), (40, .bool b')]) (r11 != 0) (fun c14 => ?_) (fun c14 => ?_)
        · replace hM := cond_t hM c14
          refine WL.run 4 [] [1, 4, 44] (fun _ => [(1, .string t4), (4, .bool false), (44, .bool true)]) (fun _ => [(b1, .cells #[.int .u64 a0.Dst, .int .u64 a0.Src, .bool a0.Tag.Has, .int .i64 a0.Tag.Pri, .bool a0.Tag.Dei, .int .i64 a0.Tag.Vid, .int .i64 a0.Type_, .string t2] 26 (0, 0)), (b13, .cells #[.int .u64 r10.Dst, .int .u64 r10.Src, .bool r10.Tag.Has, .int .i64 r10.Tag.Pri, .bool r10.Tag.Dei, .int .i64 r10.Tag.Vid, .int .i64 r10.Type_, .string r10.Body] 26 (0, 0))]) (fun _ => []) (fun _ => by kernel_rfl) (fun _ => ?_)
          exact WL.sub [1, 4, 44] (by kernel_rfl) (WL.pick [] (by kernel_rfl) (by kernel_rfl) (K1 true hM))
        · replace hM := cond_f hM c14
          refine WL.run 2 [1, 1, 1, 1, 1, 1, 1, 1, 0, 0, 0, 0, 0, 0, 0, 0] [1, 4, 40, 41, 42] (fun _ => [(1, .string t4), (4, .bool false), (40, .bool false), (41, .agg #[.int .u64 r10.Dst, .int .u64 r10.Src, .bool r10.Tag.Has, .int .i64 r10.Tag.Pri, .bool r10.Tag.Dei, .int .i64 r10.Tag.Vid, .int .i64 r10.Type_, .string r10.Body]), (42, .agg #[.int .u64 a0.Dst, .int .u64 a0.Src, .bool a0.Tag.Has, .int .i64 a0.Tag.Pri, .bool a0.Tag.Dei, .int .i64 a0.Tag.Vid, .int .i64 a0.Type_, .string t2])]) (fun _ => [(b1, .cells #[.int .u64 a0.Dst, .int .u64 a0.Src, .bool a0.Tag.Has, .int .i64 a0.Tag.Pri, .bool a0.Tag.Dei, .int .i64 a0.Tag.Vid, .int .i64 a0.Type_, .string t2] 26 (0, 0)), (b13, .cells #[.int .u64 r10.Dst, .int .u64 r10.Src, .bool r10.Tag.Has, .int .i64 r10.Tag.Pri, .bool r10.Tag.Dei, .int .i64 r10.Tag.Vid, .int .i64 r10.Type_, .string r10.Body] 26 (0, 0))]) (fun _ => [b1, b1, b1, b1, b1, b1, b1, b1, b13, b13, b13, b13, b13, b13, b13, b13]) (fun _ => by kernel_rfl) (fun _ => ?_)
          refine WL.val (fun _ => run_structNeq (xs := #[.int .u64 r10.Dst, .int .u64 r10.Src, .bool r10.Tag.Has, .int .i64 r10.Tag.Pri, .bool r10.Tag.Dei, .int .i64 r10.Tag.Vid, .int .i64 r10.Type_, .string r10.Body]) (ys := #[.int .u64 a0.Dst, .int .u64 a0.Src, .bool a0.Tag.Has, .int .i64 a0.Tag.Pri, .bool a0.Tag.Dei, .int .i64 a0.Tag.Vid, .int .i64 a0.Type_, .string t2]) (b := ((r10.Dst == a0.Dst) && ((r10.Src == a0.Src) && (((r10.Tag.Has == a0.Tag.Has) && ((r10.Tag.Pri == a0.Tag.Pri) && ((r10.Tag.Dei == a0.Tag.Dei) && ((r10.Tag.Vid == a0.Tag.Vid) && true)))) && ((r10.Type_ == a0.Type_) && ((r10.Body == t2) && true)))))) (by kernel_rfl) (by kernel_rfl) (by kernel_rfl) (by kernel_rfl)) (by kernel_rfl) (by kernel_rfl) rfl ?_
          refine WL.run 1 [] [1, 4, 44] (fun _ => [(1, .string t4), (4, .bool false), (44, .bool (!((r10.Dst == a0.Dst) && ((r10.Src == a0.Src) && (((r10.Tag.Has == a0.Tag.Has) && ((r10.Tag.Pri == a0.Tag.Pri) && ((r10.Tag.Dei == a0.Tag.Dei) && ((r10.Tag.Vid == a0.Tag.Vid) && true)))) && ((r10.Type_ == a0.Type_) && ((r10.Body == t2) && true)))))))]) (fun _ => [(b1, .cells #[.int .u64 a0.Dst, .int .u64 a0.Src, .bool a0.Tag.Has, .int .i64 a0.Tag.Pri, .bool a0.Tag.Dei, .int .i64 a0.Tag.Vid, .int .i64 a0.Type_, .string t2] 26 (0, 0)), (b13, .cells #[.int .u64 r10.Dst, .int .u64 r10.Src, .bool r10.Tag.Has, .int .i64 r10.Tag.Pri, .bool r10.Tag.Dei, .int .i64 r10.Tag.Vid, .int .i64 r10.Type_, .string r10.Body] 26 (0, 0))]) (fun _ => []) (fun _ => by kernel_rfl) (fun _ => ?_)
          exact WL.sub [1, 4, 44] (by kernel_rfl) (WL.pick [] (by kernel_rfl) (by kernel_rfl) (K1 (!((r10.Dst == a0.Dst) && ((r10.Src == a0.Src) && (((r10.Tag.Has == a0.Tag.Has) && ((r10.Tag.Pri == a0.Tag.Pri) && ((r10.Tag.Dei == a0.Tag.Dei) && ((r10.Tag.Vid == a0.Tag.Vid) && true)))) && ((r10.Type_ == a0.Type_) && ((r10.Body == t2) && true)))))) hM))
    · replace hM := cond_f hM c9
      refine WP.skip ?_
      exact WP.sub [1, 4] (by kernel_rfl) (WP.pick [] (by kernel_rfl) (by kernel_rfl) (K6 () hM))

end Go.Proofs.YtefbjefmclhhjaaDoor

namespace Go.Proofs.YtefbjefmclhhjaaDoor
open Go Eng
set_option linter.unusedVariables false
set_option linter.unusedSimpArgs false

/-! ### gangway/gangwaylaw04.EtherMore: function 5 -/
def gangwaylaw04_EtherMore.k1 (x13 : Bool) : Option (Bool) :=
  some x13

def gangwaylaw04_EtherMore.k2 (x30 : Bool) : Option (Bool) :=
  some x30

def gangwaylaw04_EtherMore.k3 (k : Nat) (x26 : Bool) : Option (Bool) :=
  bif x26 then
    (gangwaylaw04_fixed.f k).bind fun r28 =>
    gangwaylaw04_EtherMore.k2 r28
  else
    gangwaylaw04_EtherMore.k2 false

def gangwaylaw04_EtherMore.k4 (r17 : Int) (k : Nat) (r16 : api_Frame) (a0 : api_Frame) (x24 : ByteArray) : Option (Bool) :=
  bif (r17 == 0) then
    gangwaylaw04_EtherMore.k3 k ((r16.Dst == a0.Dst) && ((r16.Src == a0.Src) && (((r16.Tag.Has == a0.Tag.Has) && ((r16.Tag.Pri == a0.Tag.Pri) && ((r16.Tag.Dei == a0.Tag.Dei) && ((r16.Tag.Vid == a0.Tag.Vid) && true)))) && ((r16.Type_ == a0.Type_) && ((r16.Body == x24) && true)))))
  else
    gangwaylaw04_EtherMore.k3 k false

def gangwaylaw04_EtherMore.f (k : Nat) (a0 : api_Frame) (a1 : ByteArray) : Option (Bool) :=
  (sliceS a0.Body 0 (imin (a0.Body.size : Int) 700)).bind fun t2 =>
  (sliceS a1 0 (imin (a1.size : Int) 700)).bind fun t4 =>
  (ether_Build.f k (api_Frame.mk a0.Dst a0.Src a0.Tag a0.Type_ t2)).bind fun (r6, r7) =>
  bif (r7 != 0) then
    bif (r6.toList == (⟨#[]⟩ : ByteArray).toList) then
      (gangwaylaw04_fixed.f k).bind fun r11 =>
      gangwaylaw04_EtherMore.k1 r11
    else
      gangwaylaw04_EtherMore.k1 false
  else
    (catS r6 t4).bind fun t14 =>
    (ether_Parse.f k t14).bind fun (r16, r17) =>
    bif (a0.Type_ != 0) then
      (catS t2 t4).bind fun t22 =>
      gangwaylaw04_EtherMore.k4 r17 k r16 a0 t22
    else
      gangwaylaw04_EtherMore.k4 r17 k r16 a0 t2

set_option maxRecDepth 100000 in
theorem gangwaylaw04_EtherMore_calls (k : Nat) (a0 : api_Frame) (a1 : ByteArray) (r : Bool) (h : gangwaylaw04_EtherMore.f k a0 a1 = some r) : Pure Tryd.prog Glob 5 #[.agg #[.int .u64 a0.Dst, .int .u64 a0.Src, .bool a0.Tag.Has, .int .i64 a0.Tag.Pri, .bool a0.Tag.Dei, .int .i64 a0.Tag.Vid, .int .i64 a0.Type_, .string a0.Body], .string a1] (.bool r) := by
  intro w Z hS
  refine calls_of (args := [.agg #[.int .u64 a0.Dst, .int .u64 a0.Src, .bool a0.Tag.Has, .int .i64 a0.Tag.Pri, .bool a0.Tag.Dei, .int .i64 a0.Tag.Vid, .int .i64 a0.Type_, .string a0.Body], .string a1]) (L := [(0, .agg #[.int .u64 a0.Dst, .int .u64 a0.Src, .bool a0.Tag.Has, .int .i64 a0.Tag.Pri, .bool a0.Tag.Dei, .int .i64 a0.Tag.Vid, .int .i64 a0.Type_, .string a0.Body]), (1, .string a1)]) (N := 61) (S := Sat w Z [] [] Glob) Tryd.func5 rfl rfl (Nat.le_of_ble_eq_true rfl) rfl hS ?_
  have hM := h
  clear h hS
  unfold gangwaylaw04_EtherMore.f at hM
  refine WP.seq ?_
  refine WP.run [] [1, 2, 4] (fun b1 => [(1, .string a1), (2, .pointer (some ⟨b1, 0, none⟩)), (4, .bool false)]) (fun b1 => [(b1, .cells #[.int .u64 a0.Dst, .int .u64 a0.Src, .bool a0.Tag.Has, .int .i64 a0.Tag.Pri, .bool a0.Tag.Dei, .int .i64 a0.Tag.Vid, .int .i64 a0.Type_, .string a0.Body] 26 (0, 0))]) (fun b1 => []) (fun b1 => by kernel_rfl) (fun b1 => ?_)
  refine WP.seq ?_
  refine WP.region ?_
  refine WL.run 6 [0, 0] [1, 2, 4, 11, 15] (fun _ => [(1, .string a1), (2, .pointer (some ⟨b1, 0, none⟩)), (4, .bool false), (11, .string a0.Body), (15, .int .i64 (imin (a0.Body.size : Int) 700))]) (fun _ => [(b1, .cells #[.int .u64 a0.Dst, .int .u64 a0.Src, .bool a0.Tag.Has, .int .i64 a0.Tag.Pri, .bool a0.Tag.Dei, .int .i64 a0.Tag.Vid, .int .i64 a0.Type_, .string a0.Body] 26 (0, 0))]) (fun _ => [b1, b1]) (fun _ => by kernel_rfl) (fun _ => ?_)
  obtain ⟨t2, h3, hM⟩ := bind_some hM
  refine WL.val (fun _ => run_sliceS_hi (s := a0.Body) (kh := .i64) (h := imin (a0.Body.size : Int) 700) (by kernel_rfl) (by kernel_rfl) (by kernel_rfl) h3) (by kernel_rfl) (by kernel_rfl) rfl ?_
  refine WL.run 2 [0] [1, 2, 4] (fun _ => [(1, .string a1), (2, .pointer (some ⟨b1, 0, none⟩)), (4, .bool false)]) (fun _ => [(b1, .cells #[.int .u64 a0.Dst, .int .u64 a0.Src, .bool a0.Tag.Has, .int .i64 a0.Tag.Pri, .bool a0.Tag.Dei, .int .i64 a0.Tag.Vid, .int .i64 a0.Type_, .string t2] 26 (0, 0))]) (fun _ => [b1]) (fun _ => by kernel_rfl) (fun _ => ?_)
  refine WP.done ?_
  refine WP.seq ?_
  refine WP.region ?_
  refine WL.run 4 [] [1, 2, 4, 18, 21] (fun _ => [(1, .string a1), (2, .pointer (some ⟨b1, 0, none⟩)), (4, .bool false), (18, .string a1), (21, .int .i64 (imin (a1.size : Int) 700))]) (fun _ => [(b1, .cells #[.int .u64 a0.Dst, .int .u64 a0.Src, .bool a0.Tag.Has, .int .i64 a0.Tag.Pri, .bool a0.Tag.Dei, .int .i64 a0.Tag.Vid, .int .i64 a0.Type_, .string t2] 26 (0, 0))]) (fun _ => []) (fun _ => by kernel_rfl) (fun _ => ?_)
  obtain ⟨t4, h5, hM⟩ := bind_some hM
  refine WL.val (fun _ => run_sliceS_hi (s := a1) (kh := .i64) (h := imin (a1.size : Int) 700) (by kernel_rfl) (by kernel_rfl) (by kernel_rfl) h5) (by kernel_rfl) (by kernel_rfl) rfl ?_
  refine WL.run 1 [] [1, 2, 4] (fun _ => [(1, .string t4), (2, .pointer (some ⟨b1, 0, none⟩)), (4, .bool false)]) (fun _ => [(b1, .cells #[.int .u64 a0.Dst, .int .u64 a0.Src, .bool a0.Tag.Has, .int .i64 a0.Tag.Pri, .bool a0.Tag.Dei, .int .i64 a0.Tag.Vid, .int .i64 a0.Type_, .string t2] 26 (0, 0))]) (fun _ => []) (fun _ => by kernel_rfl) (fun _ => ?_)
  refine WP.done ?_
  refine WP.seq ?_
  refine WP.region ?_
  refine WL.run 1 [0, 0, 0, 0, 0, 0, 0, 0] [1, 2, 4, 24] (fun _ => [(1, .string t4), (2, .pointer (some ⟨b1, 0, none⟩)), (4, .bool false), (24, .agg #[.int .u64 a0.Dst, .int .u64 a0.Src, .bool a0.Tag.Has, .int .i64 a0.Tag.Pri, .bool a0.Tag.Dei, .int .i64 a0.Tag.Vid, .int .i64 a0.Type_, .string t2])]) (fun _ => [(b1, .cells #[.int .u64 a0.Dst, .int .u64 a0.Src, .bool a0.Tag.Has, .int .i64 a0.Tag.Pri, .bool a0.Tag.Dei, .int .i64 a0.Tag.Vid, .int .i64 a0.Type_, .string t2] 26 (0, 0))]) (fun _ => [b1, b1, b1, b1, b1, b1, b1, b1]) (fun _ => by kernel_rfl) (fun _ => ?_)
  obtain ⟨⟨r6, r7⟩, h8, hM⟩ := bind_some hM
  dsimp only at hM
  refine WL.callP [] [] (ether_Build_calls k (api_Frame.mk a0.Dst a0.Src a0.Tag a0.Type_ t2) _ h8) (fun _ h => h) (by kernel_rfl) (by kernel_rfl) rfl ?_
  refine WL.run 5 [] [1, 2, 4, 5, 6] (fun _ => [(1, .string t4), (2, .pointer (some ⟨b1, 0, none⟩)), (4, .bool false), (5, .string r6), (6, .int .i64 r7)]) (fun _ => [(b1, .cells #[.int .u64 a0.Dst, .int .u64 a0.Src, .bool a0.Tag.Has, .int .i64 a0.Tag.Pri, .bool a0.Tag.Dei, .int .i64 a0.Tag.Vid, .int .i64 a0.Type_, .string t2] 26 (0, 0))]) (fun _ => []) (fun _ => by kernel_rfl) (fun _ => ?_)
  refine WP.done ?_
  refine WP.seq ?_
  refine WP.seq ?_
  refine WP.run [] [1, 2, 4, 5, 29] (fun _ => [(1, .string t4), (2, .pointer (some ⟨b1, 0, none⟩)), (4, .bool false), (5, .string r6), (29, .bool (r7 != 0))]) (fun _ => [(b1, .cells #[.int .u64 a0.Dst, .int .u64 a0.Src, .bool a0.Tag.Has, .int .i64 a0.Tag.Pri, .bool a0.Tag.Dei, .int .i64 a0.Tag.Vid, .int .i64 a0.Type_, .string t2] 26 (0, 0))]) (fun _ => []) (fun _ => by kernel_rfl) (fun _ => ?_)
  refine WP.cond (r7 != 0) rfl rfl (fun c9 => ?_) (fun c9 => ?_)
  · replace hM := cond_t hM c9
    refine WP.seq ?_
    refine WP.region ?_
    refine WL.run 3 [] [1, 2, 4, 5, 32] (fun _ => [(1, .string t4), (2, .pointer (some ⟨b1, 0, none⟩)), (4, .bool false), (5, .string r6), (32, .bool (r6.toList == (⟨#[]⟩ : ByteArray).toList))]) (fun _ => [(b1, .cells #[.int .u64 a0.Dst, .int .u64 a0.Src, .bool a0.Tag.Has, .int .i64 a0.Tag.Pri, .bool a0.Tag.Dei, .int .i64 a0.Tag.Vid, .int .i64 a0.Type_, .string t2] 26 (0, 0))]) (fun _ => []) (fun _ => by kernel_rfl) (fun _ => ?_)
    refine WL.sub [1, 2, 4, 5, 32] (L' := [(1, .string t4), (2, .pointer (some ⟨b1, 0, none⟩)), (4, .bool false), (5, .string r6), (32, .bool (r6.toList == (⟨#[]⟩ : ByteArray).toList))]) (by kernel_rfl) ?_
    refine WL.join (σ := Bool) 2 (fun st => gangwaylaw04_EtherMore.k1 st = some r) (fun st => [(1, .string t4), (2, .pointer (some ⟨b1, 0, none⟩)), (4, .bool false), (5, .string r6), (34, .bool st)]) (fun st => Sat w Z [(b1, .cells #[.int .u64 a0.Dst, .int .u64 a0.Src, .bool a0.Tag.Has, .int .i64 a0.Tag.Pri, .bool a0.Tag.Dei, .int .i64 a0.Tag.Vid, .int .i64 a0.Type_, .string t2] 26 (0, 0))] [] Glob) (fun st hM => ?_) (fun K1 => ?_)
    ·
      obtain ⟨x13, rfl⟩ : ∃ y, y = st := ⟨st, rfl⟩
      replace hM : gangwaylaw04_EtherMore.k1 x13 = some r := hM
      unfold gangwaylaw04_EtherMore.k1 at hM
      show WL _ _ _ _ _ [(1, .string t4), (2, .pointer (some ⟨b1, 0, none⟩)), (4, .bool false), (5, .string r6), (34, .bool x13)] (Sat w Z [(b1, .cells #[.int .u64 a0.Dst, .int .u64 a0.Src, .bool a0.Tag.Has, .int .i64 a0.Tag.Pri, .bool a0.Tag.Dei, .int .i64 a0.Tag.Vid, .int .i64 a0.Type_, .string t2] 26 (0, 0))] [] Glob)
      refine WL.run 1 [] [1, 2, 4, 5] (fun _ => [(1, .string t4), (2, .pointer (some ⟨b1, 0, none⟩)), (4, .bool x13), (5, .string r6)]) (fun _ => [(b1, .cells #[.int .u64 a0.Dst, .int .u64 a0.Src, .bool a0.Tag.Has, .int .i64 a0.Tag.Pri, .bool a0.Tag.Dei, .int .i64 a0.Tag.Vid, .int .i64 a0.Type_, .string t2] 26 (0, 0))]) (fun _ => []) (fun _ => by kernel_rfl) (fun _ => ?_)
      refine WP.done ?_
      obtain rfl := Option.some.inj hM
      exact WP.ret [] [] (.bool x13) (by kernel_rfl) (fun w' hw => ⟨rfl, hw.pick [] rfl⟩)
    ·
      refine WL.split (fun b' => [(1, .string t4), (2, .pointer (some ⟨b1, 0, none⟩)), (4, .bool false), (5, .string r6), (32, .bool b')]) (r6.toList == (⟨#[]⟩ : ByteArray).toList) (fun c10 => ?_) (fun c10 => ?_)
      · replace hM := cond_t hM c10
        obtain ⟨r11, h12, hM⟩ := bind_some hM
        refine WL.callP [] [] (gangwaylaw04_fixed_calls k _ h12) (fun _ h => h) (by kernel_rfl) (by kernel_rfl) rfl ?_
        refine WL.run 1 [] [1, 2, 4, 5, 34] (fun _ => [(1, .string t4), (2, .pointer (some ⟨b1, 0, none⟩)), (4, .bool false), (5, .string r6), (34, .bool r11)]) (fun _ => [(b1, .cells #[.int .u64 a0.Dst, .int .u64 a0.Src, .bool a0.Tag.Has, .int .i64 a0.Tag.Pri, .bool a0.Tag.Dei, .int .i64 a0.Tag.Vid, .int .i64 a0.Type_, .string t2] 26 (0, 0))]) (fun _ => []) (fun _ => by kernel_rfl) (fun _ => ?_)
        exact WL.sub [1, 2, 4, 5, 34] (by kernel_rfl) (WL.pick [0] (by kernel_rfl) (by kernel_rfl) (K1 r11 hM))
      · replace hM := cond_f hM c10
        refine WL.run 2 [] [1, 2, 4, 5, 34] (fun _ => [(1, .string t4), (2, .pointer (some ⟨b1, 0, none⟩)), (4, .bool false), (5, .string r6), (34, .bool false)]) (fun _ => [(b1, .cells #[.int .u64 a0.Dst, .int .u64 a0.Src, .bool a0.Tag.Has, .int .i64 a0.Tag.Pri, .bool a0.Tag.Dei, .int .i64 a0.Tag.Vid, .int .i64 a0.Type_, .string t2] 26 (0, 0))]) (fun _ => []) (fun _ => by kernel_rfl) (fun _ => ?_)
        exact WL.sub [1, 2, 4, 5, 34] (by kernel_rfl) (WL.pick [0] (by kernel_rfl) (by kernel_rfl) (K1 false hM))
  · replace hM := cond_f hM c9
    refine WP.skip ?_
    refine WP.seq ?_
    refine WP.region ?_
    refine WL.run 2 [] [1, 2, 4, 36, 37] (fun _ => [(1, .string t4), (2, .pointer (some ⟨b1, 0, none⟩)), (4, .bool false), (36, .string r6), (37, .string t4)]) (fun _ => [(b1, .cells #[.int .u64 a0.Dst, .int .u64 a0.Src, .bool a0.Tag.Has, .int .i64 a0.Tag.Pri, .bool a0.Tag.Dei, .int .i64 a0.Tag.Vid, .int .i64 a0.Type_, .string t2] 26 (0, 0))]) (fun _ => []) (fun _ => by kernel_rfl) (fun _ => ?_)
    obtain ⟨t14, h15, hM⟩ := bind_some hM
    refine WL.val (fun _ => run_catS (a := r6) (b := t4) (by kernel_rfl) (by kernel_rfl) h15) (by kernel_rfl) (by kernel_rfl) rfl ?_
    obtain ⟨⟨r16, r17⟩, h18, hM⟩ := bind_some hM
    dsimp only at hM
    refine WL.callP [] [] (ether_Parse_calls k t14 _ h18) (fun _ h => h) (by kernel_rfl) (by kernel_rfl) rfl ?_
    refine WL.run 6 [1, 1, 1, 1, 1, 1, 1, 1] [1, 2, 4, 7, 8] (fun b19 => [(1, .string t4), (2, .pointer (some ⟨b1, 0, none⟩)), (4, .bool false), (7, .pointer (some ⟨b19, 0, none⟩)), (8, .int .i64 r17)]) (fun b19 => [(b1, .cells #[.int .u64 a0.Dst, .int .u64 a0.Src, .bool a0.Tag.Has, .int .i64 a0.Tag.Pri, .bool a0.Tag.Dei, .int .i64 a0.Tag.Vid, .int .i64 a0.Type_, .string t2] 26 (0, 0)), (b19, .cells #[.int .u64 r16.Dst, .int .u64 r16.Src, .bool r16.Tag.Has, .int .i64 r16.Tag.Pri, .bool r16.Tag.Dei, .int .i64 r16.Tag.Vid, .int .i64 r16.Type_, .string r16.Body] 26 (0, 0))]) (fun b19 => [b19, b19, b19, b19, b19, b19, b19, b19]) (fun b19 => by kernel_rfl) (fun b19 => ?_)
    refine WP.done ?_
    refine WP.seq ?_
    refine WP.run [0, 0, 0, 0, 0, 0, 0, 0, 2, 2, 2, 2, 2, 2, 2, 2] [1, 2, 4, 7, 8, 9] (fun b20 => [(1, .string t4), (2, .pointer (some ⟨b1, 0, none⟩)), (4, .bool false), (7, .pointer (some ⟨b19, 0, none⟩)), (8, .int .i64 r17), (9, .pointer (some ⟨b20, 0, none⟩))]) (fun b20 => [(b1, .cells #[.int .u64 a0.Dst, .int .u64 a0.Src, .bool a0.Tag.Has, .int .i64 a0.Tag.Pri, .bool a0.Tag.Dei, .int .i64 a0.Tag.Vid, .int .i64 a0.Type_, .string t2] 26 (0, 0)), (b19, .cells #[.int .u64 r16.Dst, .int .u64 r16.Src, .bool r16.Tag.Has, .int .i64 r16.Tag.Pri, .bool r16.Tag.Dei, .int .i64 r16.Tag.Vid, .int .i64 r16.Type_, .string r16.Body] 26 (0, 0)), (b20, .cells #[.int .u64 a0.Dst, .int .u64 a0.Src, .bool a0.Tag.Has, .int .i64 a0.Tag.Pri, .bool a0.Tag.Dei, .int .i64 a0.Tag.Vid, .int .i64 a0.Type_, .string t2] 26 (0, 0))]) (fun b20 => [b20, b20, b20, b20, b20, b20, b20, b20, b1, b1, b1, b1, b1, b1, b1, b1]) (fun b20 => by kernel_rfl) (fun b20 => ?_)
    refine WP.seqJoin (σ := ByteArray) (fun st => gangwaylaw04_EtherMore.k4 r17 k r16 a0 st = some r) (fun st => [(4, .bool false), (7, .pointer (some ⟨b19, 0, none⟩)), (8, .int .i64 r17), (9, .pointer (some ⟨b20, 0, none⟩))]) (fun st => Sat w Z [(b19, .cells #[.int .u64 r16.Dst, .int .u64 r16.Src, .bool r16.Tag.Has, .int .i64 r16.Tag.Pri, .bool r16.Tag.Dei, .int .i64 r16.Tag.Vid, .int .i64 r16.Type_, .string r16.Body] 26 (0, 0)), (b20, .cells #[.int .u64 a0.Dst, .int .u64 a0.Src, .bool a0.Tag.Has, .int .i64 a0.Tag.Pri, .bool a0.Tag.Dei, .int .i64 a0.Tag.Vid, .int .i64 a0.Type_, .string st] 26 (0, 0))] [] Glob) (fun st hM => ?_) (fun K4 => ?_)
    ·
      obtain ⟨x24, rfl⟩ : ∃ y, y = st := ⟨st, rfl⟩
      replace hM : gangwaylaw04_EtherMore.k4 r17 k r16 a0 x24 = some r := hM
      unfold gangwaylaw04_EtherMore.k4 at hM
      show WP _ _ _ _ _ [(4, .bool false), (7, .pointer (some ⟨b19, 0, none⟩)), (8, .int .i64 r17), (9, .pointer (some ⟨b20, 0, none⟩))] (Sat w Z [(b19, .cells #[.int .u64 r16.Dst, .int .u64 r16.Src, .bool r16.Tag.Has, .int .i64 r16.Tag.Pri, .bool r16.Tag.Dei, .int .i64 r16.Tag.Vid, .int .i64 r16.Type_, .string r16.Body] 26 (0, 0)), (b20, .cells #[.int .u64 a0.Dst, .int .u64 a0.Src, .bool a0.Tag.Has, .int .i64 a0.Tag.Pri, .bool a0.Tag.Dei, .int .i64 a0.Tag.Vid, .int .i64 a0.Type_, .string x24] 26 (0, 0))] [] Glob)
      refine WP.seq ?_
      refine WP.region ?_
      refine WL.run 3 [] [4, 7, 9, 53] (fun _ => [(4, .bool false), (7, .pointer (some ⟨b19, 0, none⟩)), (9, .pointer (some ⟨b20, 0, none⟩)), (53, .bool (r17 == 0))]) (fun _ => [(b19, .cells #[.int .u64 r16.Dst, .int .u64 r16.Src, .bool r16.Tag.Has, .int .i64 r16.Tag.Pri, .bool r16.Tag.Dei, .int .i64 r16.Tag.Vid, .int .i64 r16.Type_, .string r16.Body] 26 (0, 0)), (b20, .cells #[.int .u64 a0.Dst, .int .u64 a0.Src, .bool a0.Tag.Has, .int .i64 a0.Tag.Pri, .bool a0.Tag.Dei, .int .i64 a0.Tag.Vid, .int .i64 a0.Type_, .string x24] 26 (0, 0))]) (fun _ => []) (fun _ => by kernel_rfl) (fun _ => ?_)
      refine WL.sub [4, 7, 9, 53] (L' := [(4, .bool false), (7, .pointer (some ⟨b19, 0, none⟩)), (9, .pointer (some ⟨b20, 0, none⟩)), (53, .bool (r17 == 0))]) (by kernel_rfl) ?_
      refine WL.join (σ := Bool) 4 (fun st => gangwaylaw04_EtherMore.k3 k st = some r) (fun st => [(4, .bool false), (57, .bool st)]) (fun st => Sat w Z [] [] Glob) (fun st hM => ?_) (fun K3 => ?_)
      ·
        obtain ⟨x26, rfl⟩ : ∃ y, y = st := ⟨st, rfl⟩
        replace hM : gangwaylaw04_EtherMore.k3 k x26 = some r := hM
        unfold gangwaylaw04_EtherMore.k3 at hM
        show WL _ _ _ _ _ [(4, .bool false), (57, .bool x26)] (Sat w Z [] [] Glob)
        refine WL.run 1 [] [4, 58] (fun _ => [(4, .bool false), (58, .bool x26)]) (fun _ => []) (fun _ => []) (fun _ => by kernel_rfl) (fun _ => ?_)
        refine WL.sub [4, 58] (L' := [(4, .bool false), (58, .bool x26)]) (by kernel_rfl) ?_
        refine WL.join (σ := Bool) 2 (fun st => gangwaylaw04_EtherMore.k2 st = some r) (fun st => [(4, .bool false), (60, .bool st)]) (fun st => Sat w Z [] [] Glob) (fun st hM => ?_) (fun K2 => ?_)
        ·
          obtain ⟨x30, rfl⟩ : ∃ y, y = st := ⟨st, rfl⟩
          replace hM : gangwaylaw04_EtherMore.k2 x30 = some r := hM
          unfold gangwaylaw04_EtherMore.k2 at hM
          show WL _ _ _ _ _ [(4, .bool false), (60, .bool x30)] (Sat w Z [] [] Glob)
          refine WL.run 1 [] [4] (fun _ => [(4, .bool x30)]) (fun _ => []) (fun _ => []) (fun _ => by kernel_rfl) (fun _ => ?_)
          refine WP.done ?_
          obtain rfl := Option.some.inj hM
          exact WP.ret [] [] (.bool x30) (by kernel_rfl) (fun w' hw => ⟨rfl, hw.pick [] rfl⟩)
        ·
          refine WL.split (fun b' => [(4, .bool false), (58, .bool b')]) x26 (fun c27 => ?_) (fun c27 => ?_)
          · replace hM := cond_t hM c27
            obtain ⟨r28, h29, hM⟩ := bind_some hM
            refine WL.callP [] [] (gangwaylaw04_fixed_calls k _ h29) (fun _ h => h) (by kernel_rfl) (by kernel_rfl) rfl ?_
            refine WL.run 1 [] [4, 60] (fun _ => [(4, .bool false), (60, .bool r28)]) (fun _ => []) (fun _ => []) (fun _ => by kernel_rfl) (fun _ => ?_)
            exact WL.sub [4, 60] (by kernel_rfl) (WL.pick [] (by kernel_rfl) (by kernel_rfl) (K2 r28 hM))
          · replace hM := cond_f hM c27
            refine WL.run 2 [] [4, 60] (fun _ => [(4, .bool false), (60, .bool false)]) (fun _ => []) (fun _ => []) (fun _ => by kernel_rfl) (fun _ => ?_)
            exact WL.sub [4, 60] (by kernel_rfl) (WL.pick [] (by kernel_rfl) (by kernel_rfl) (K2 false hM))
      ·
        refine WL.split (fun b' => [(4, .bool false), (7, .pointer (some ⟨b19, 0, none⟩)), (9, .pointer (some ⟨b20, 0, none⟩)), (53, .bool b')]) (r17 == 0) (fun c25 => ?_) (fun c25 => ?_)
        · replace hM := cond_t hM c25
          refine WL.run 2 [0, 0, 0, 0, 0, 0, 0, 0, 1, 1, 1, 1, 1, 1, 1, 1] [4, 53, 54, 55] (fun _ => [(4, .bool false), (53, .bool true), (54, .agg #[.int .u64 r16.Dst, .int .u64 r16.Src, .bool r16.Tag.Has, .int .i64 r16.Tag.Pri, .bool r16.Tag.Dei, .int .i64 r16.Tag.Vid, .int .i64 r16.Type_, .string r16.Body]), (55, .agg #[.int .u64 a0.Dst, .int .u64 a0.Src, .bool a0.Tag.Has, .int .i64 a0.Tag.Pri, .bool a0.Tag.Dei, .int .i64 a0.Tag.Vid, .int .i64 a0.Type_, .string x24])]) (fun _ => [(b19, .cells #[.int .u64 r16.Dst, .int .u64 r16.Src, .bool r16.Tag.Has, .int .i64 r16.Tag.Pri, .bool r16.Tag.Dei, .int .i64 r16.Tag.Vid, .int .i64 r16.Type_, .string r16.Body] 26 (0, 0)), (b20, .cells #[.int .u64 a0.Dst, .int .u64 a0.Src, .bool a0.Tag.Has, .int .i64 a0.Tag.Pri, .bool a0.Tag.Dei, .int .i64 a0.Tag.Vid, .int .i64 a0.Type_, .string x24] 26 (0, 0))]) (fun _ => [b20, b20, b20, b20, b20, b20, b20, b20, b19, b19, b19, b19, b19, b19, b19, b19]) (fun _ => by kernel_rfl) (fun _ => ?_)
          refine WL.val (fun _ => run_structEq (xs := #[.int .u64 r16.Dst, .int .u64 r16.Src, .bool r16.Tag.Has, .int .i64 r16.Tag.Pri, .bool r16.Tag.Dei, .int .i64 r16.Tag.Vid, .int .i64 r16.Type_, .string r16.Body]) (ys := #[.int .u64 a0.Dst, .int .u64 a0.Src, .bool a0.Tag.Has, .int .i64 a0.Tag.Pri, .bool a0.Tag.Dei, .int .i64 a0.Tag.Vid, .int .i64 a0.Type_, .string x24]) (b := ((r16.Dst == a0.Dst) && ((r16.Src == a0.Src) && (((r16.Tag.Has == a0.Tag.Has) && ((r16.Tag.Pri == a0.Tag.Pri) && ((r16.Tag.Dei == a0.Tag.Dei) && ((r16.Tag.Vid == a0.Tag.Vid) && true)))) && ((r16.Type_ == a0.Type_) && ((r16.Body == x24) && true)))))) (by kernel_rfl) (by kernel_rfl) (by kernel_rfl) (by kernel_rfl)) (by kernel_rfl) (by kernel_rfl) rfl ?_
          refine WL.run 1 [] [4, 57] (fun _ => [(4, .bool false), (57, .bool ((r16.Dst == a0.Dst) && ((r16.Src == a0.Src) && (((r16.Tag.Has == a0.Tag.Has) && ((r16.Tag.Pri == a0.Tag.Pri) && ((r16.Tag.Dei == a0.Tag.Dei) && ((r16.Tag.Vid == a0.Tag.Vid) && true)))) && ((r16.Type_ == a0.Type_) && ((r16.Body == x24) && true))))))]) (fun _ => [(b19, .cells #[.int .u64 r16.Dst, .int .u64 r16.Src, .bool r16.Tag.Has, .int .i64 r16.Tag.Pri, .bool r16.Tag.Dei, .int .i64 r16.Tag.Vid, .int .i64 r16.Type_, .string r16.Body] 26 (0, 0)), (b20, .cells #[.int .u64 a0.Dst, .int .u64 a0.Src, .bool a0.Tag.Has, .int .i64 a0.Tag.Pri, .bool a0.Tag.Dei, .int .i64 a0.Tag.Vid, .int .i64 a0.Type_, .string x24] 26 (0, 0))]) (fun _ => []) (fun _ => by kernel_rfl) (fun _ => ?_)
          exact WL.sub [4, 57] (by kernel_rfl) (WL.pick [] (by kernel_rfl) (by kernel_rfl) (K3 ((r16.Dst == a0.Dst) && ((r16.Src == a0.Src) && (((r16.Tag.Has == a0.Tag.Has) && ((r16.Tag.Pri == a0.Tag.Pri) && ((r16.Tag.Dei == a0.Tag.Dei) && ((r16.Tag.Vid == a0.Tag.Vid) && true)))) && ((r16.Type_ == a0.Type_) && ((r16.Body == x24) && true))))) hM))
        · replace hM := cond_f hM c25
          refine WL.run 4 [] [4, 57] (fun _ => [(4, .bool false), (57, .bool false)]) (fun _ => [(b19, .cells #[.int .u64 r16.Dst, .int .u64 r16.Src, .bool r16.Tag.Has, .int .i64 r16.Tag.Pri, .bool r16.Tag.Dei, .int .i64 r16.Tag.Vid, .int .i64 r16.Type_, .string r16.Body] 26 (0, 0)), (b20, .cells #[.int .u64 a0.Dst, .int .u64 a0.Src, .bool a0.Tag.Has, .int .i64 a0.Tag.Pri, .bool a0.Tag.Dei, .int .i64 a0.Tag.Vid, .int .i64 a0.Type_, .string x24] 26 (0, 0))]) (fun _ => []) (fun _ => by kernel_rfl) (fun _ => ?_)
          exact WL.sub [4, 57] (by kernel_rfl) (WL.pick [] (by kernel_rfl) (by kernel_rfl) (K3 false hM))
    ·
      refine WP.seq ?_
      refine WP.run [0] [1, 2, 4, 7, 8, 9, 45] (fun _ => [(1, .string t4), (2, .pointer (some ⟨b1, 0, none⟩)), (4, .bool false), (7, .pointer (some ⟨b19, 0, none⟩)), (8, .int .i64 r17), (9, .pointer (some ⟨b20, 0, none⟩)), (45, .bool (a0.Type_ != 0))]) (fun _ => [(b1, .cells #[.int .u64 a0.Dst, .int .u64 a0.Src, .bool a0.Tag.Has, .int .i64 a0.Tag.Pri, .bool a0.Tag.Dei, .int .i64 a0.Tag.Vid, .int .i64 a0.Type_, .string t2] 26 (0, 0)), (b19, .cells #[.int .u64 r16.Dst, .int .u64 r16.Src, .bool r16.Tag.Has, .int .i64 r16.Tag.Pri, .bool r16.Tag.Dei, .int .i64 r16.Tag.Vid, .int .i64 r16.Type_, .string r16.Body] 26 (0, 0)), (b20, .cells #[.int .u64 a0.Dst, .int .u64 a0.Src, .bool a0.Tag.Has, .int .i64 a0.Tag.Pri, .bool a0.Tag.Dei, .int .i64 a0.Tag.Vid, .int .i64 a0.Type_, .string t2] 26 (0, 0))]) (fun _ => [b1]) (fun _ => by kernel_rfl) (fun _ => ?_)
      refine WP.cond (a0.Type_ != 0) rfl rfl (fun c21 => ?_) (fun c21 => ?_)
      · replace hM := cond_t hM c21
        refine WP.region ?_
        refine WL.run 3 [0] [4, 7, 8, 9, 47, 48] (fun _ => [(4, .bool false), (7, .pointer (some ⟨b19, 0, none⟩)), (8, .int .i64 r17), (9, .pointer (some ⟨b20, 0, none⟩)), (47, .string t2), (48, .string t4)]) (fun _ => [(b1, .cells #[.int .u64 a0.Dst, .int .u64 a0.Src, .bool a0.Tag.Has, .int .i64 a0.Tag.Pri, .bool a0.Tag.Dei, .int .i64 a0.Tag.Vid, .int .i64 a0.Type_, .string t2] 26 (0, 0)), (b19, .cells #[.int .u64 r16.Dst, .int .u64 r16.Src, .bool r16.Tag.Has, .int .i64 r16.Tag.Pri, .bool r16.Tag.Dei, .int .i64 r16.Tag.Vid, .int .i64 r16.Type_, .string r16.Body] 26 (0, 0)), (b20, .cells #[.int .u64 a0.Dst, .int .u64 a0.Src, .bool a0.Tag.Has, .int .i64 a0.Tag.Pri, .bool a0.Tag.Dei, .int .i64 a0.Tag.Vid, .int .i64 a0.Type_, .string t2] 26 (0, 0))]) (fun _ => [b1]) (fun _ => by kernel_rfl) (fun _ => ?_)
        obtain ⟨t22, h23, hM⟩ := bind_some hM
        refine WL.val (fun _ => run_catS (a := t2) (b := t4) (by kernel_rfl) (by kernel_rfl) h23) (by kernel_rfl) (by kernel_rfl) rfl ?_
        refine WL.run 2 [2] [4, 7, 8, 9] (fun _ => [(4, .bool false), (7, .pointer (some ⟨b19, 0, none⟩)), (8, .int .i64 r17), (9, .pointer (some ⟨b20, 0, none⟩))]) (fun _ => [(b1, .cells #[.int .u64 a0.Dst, .int .u64 a0.Src, .bool a0.Tag.Has, .int .i64 a0.Tag.Pri, .bool a0.Tag.Dei, .int .i64 a0.Tag.Vid, .int .i64 a0.Type_, .string t2] 26 (0, 0)), (b19, .cells #[.int .u64 r16.Dst, .int .u64 r16.Src, .bool r16.Tag.Has, .int .i64 r16.Tag.Pri, .bool r16.Tag.Dei, .int .i64 r16.Tag.Vid, .int .i64 r16.Type_, .string r16.Body] 26 (0, 0)), (b20, .cells #[.int .u64 a0.Dst, .int .u64 a0.Src, .bool a0.Tag.Has, .int .i64 a0.Tag.Pri, .bool a0.Tag.Dei, .int .i64 a0.Tag.Vid, .int .i64 a0.Type_, .string t22] 26 (0, 0))]) (fun _ => [b20]) (fun _ => by kernel_rfl) (fun _ => ?_)
        refine WP.done ?_
        refine WP.keep [false, true, true] (by kernel_rfl : _ = [(b19, .cells #[.int .u64 r16.Dst, .int .u64 r16.Src, .bool r16.Tag.Has, .int .i64 r16.Tag.Pri, .bool r16.Tag.Dei, .int .i64 r16.Tag.Vid, .int .i64 r16.Type_, .string r16.Body] 26 (0, 0)), (b20, .cells #[.int .u64 a0.Dst, .int .u64 a0.Src, .bool a0.Tag.Has, .int .i64 a0.Tag.Pri, .bool a0.Tag.Dei, .int .i64 a0.Tag.Vid, .int .i64 a0.Type_, .string t22] 26 (0, 0))]) ?_
        exact WP.sub [4, 7, 8, 9] (by kernel_rfl) (WP.pick [0, 1] (by kernel_rfl) (by kernel_rfl) (K4 t22 hM))
      · replace hM := cond_f hM c21
        refine WP.skip ?_
        exact WP.sub [4, 7, 8, 9] (by kernel_rfl) (WP.pick [1, 2] (by kernel_rfl) (by kernel_rfl) (K4 t2 hM))

end Go.Proofs.YtefbjefmclhhjaaDoor

namespace Go.Proofs.YtefbjefmclhhjaaDoor
open Go Eng
set_option linter.unusedVariables false
set_option linter.unusedSimpArgs false

/-! ### gangway/ether.Tagged: function 15 -/
def ether_Tagged.f (a0 : api_Frame) (a1 : api_Tag) : Option (api_Frame) :=
  some (api_Frame.mk a0.Dst a0.Src a1 a0.Type_ a0.Body)

set_option maxRecDepth 100000 in
theorem ether_Tagged_calls (a0 : api_Frame) (a1 : api_Tag) (r : api_Frame) (h : ether_Tagged.f a0 a1 = some r) : Pure Tryd.prog Glob 15 #[.agg #[.int .u64 a0.Dst, .int .u64 a0.Src, .bool a0.Tag.Has, .int .i64 a0.Tag.Pri, .bool a0.Tag.Dei, .int .i64 a0.Tag.Vid, .int .i64 a0.Type_, .string a0.Body], .agg #[.bool a1.Has, .int .i64 a1.Pri, .bool a1.Dei, .int .i64 a1.Vid]] (.agg #[.int .u64 r.Dst, .int .u64 r.Src, .bool r.Tag.Has, .int .i64 r.Tag.Pri, .bool r.Tag.Dei, .int .i64 r.Tag.Vid, .int .i64 r.Type_, .string r.Body]) := by
  intro w Z hS
  refine calls_of (args := [.agg #[.int .u64 a0.Dst, .int .u64 a0.Src, .bool a0.Tag.Has, .int .i64 a0.Tag.Pri, .bool a0.Tag.Dei, .int .i64 a0.Tag.Vid, .int .i64 a0.Type_, .string a0.Body], .agg #[.bool a1.Has, .int .i64 a1.Pri, .bool a1.Dei, .int .i64 a1.Vid]]) (L := [(0, .agg #[.int .u64 a0.Dst, .int .u64 a0.Src, .bool a0.Tag.Has, .int .i64 a0.Tag.Pri, .bool a0.Tag.Dei, .int .i64 a0.Tag.Vid, .int .i64 a0.Type_, .string a0.Body]), (1, .agg #[.bool a1.Has, .int .i64 a1.Pri, .bool a1.Dei, .int .i64 a1.Vid])]) (N := 8) (S := Sat w Z [] [] Glob) Tryd.func15 rfl rfl (Nat.le_of_ble_eq_true rfl) rfl hS ?_
  have hM := h
  clear h hS
  unfold ether_Tagged.f at hM
  refine WP.seq ?_
  refine WP.run [] [2, 3, 4] (fun b1 => [(2, .pointer (some ⟨b1, 0, none⟩)), (3, .pointer (some ⟨(b1 + 1), 0, none⟩)), (4, .pointer (some ⟨(b1 + 2), 0, none⟩))]) (fun b1 => [(b1, .cells #[.int .u64 a0.Dst, .int .u64 a0.Src, .bool a0.Tag.Has, .int .i64 a0.Tag.Pri, .bool a0.Tag.Dei, .int .i64 a0.Tag.Vid, .int .i64 a0.Type_, .string a0.Body] 26 (0, 0)), ((b1 + 1), .cells #[.bool a1.Has, .int .i64 a1.Pri, .bool a1.Dei, .int .i64 a1.Vid] 24 (0, 0)), ((b1 + 2), .cells #[.int .u64 0, .int .u64 0, .bool false, .int .i64 0, .bool false, .int .i64 0, .int .i64 0, .string (⟨#[]⟩ : ByteArray)] 26 (0, 0))]) (fun b1 => []) (fun b1 => by kernel_rfl) (fun b1 => ?_)
  refine WP.seq ?_
  refine WP.run [1, 1, 1, 1, 0, 0, 0, 0] [2, 4] (fun _ => [(2, .pointer (some ⟨b1, 0, none⟩)), (4, .pointer (some ⟨(b1 + 2), 0, none⟩))]) (fun _ => [(b1, .cells #[.int .u64 a0.Dst, .int .u64 a0.Src, .bool a1.Has, .int .i64 a1.Pri, .bool a1.Dei, .int .i64 a1.Vid, .int .i64 a0.Type_, .string a0.Body] 26 (0, 0)), ((b1 + 1), .cells #[.bool a1.Has, .int .i64 a1.Pri, .bool a1.Dei, .int .i64 a1.Vid] 24 (0, 0)), ((b1 + 2), .cells #[.int .u64 0, .int .u64 0, .bool false, .int .i64 0, .bool false, .int .i64 0, .int .i64 0, .string (⟨#[]⟩ : ByteArray)] 26 (0, 0))]) (fun _ => [b1, b1, b1, b1, (b1 + 1), (b1 + 1), (b1 + 1), (b1 + 1)]) (fun _ => by kernel_rfl) (fun _ => ?_)
  refine WP.keep [true, false, true] (by kernel_rfl : _ = [(b1, .cells #[.int .u64 a0.Dst, .int .u64 a0.Src, .bool a1.Has, .int .i64 a1.Pri, .bool a1.Dei, .int .i64 a1.Vid, .int .i64 a0.Type_, .string a0.Body] 26 (0, 0)), ((b1 + 2), .cells #[.int .u64 0, .int .u64 0, .bool false, .int .i64 0, .bool false, .int .i64 0, .int .i64 0, .string (⟨#[]⟩ : ByteArray)] 26 (0, 0))]) ?_
  refine WP.seq ?_
  refine WP.run [0, 0, 0, 0, 0, 0, 0, 0, 1, 1, 1, 1, 1, 1, 1, 1] [4] (fun _ => [(4, .pointer (some ⟨(b1 + 2), 0, none⟩))]) (fun _ => [(b1, .cells #[.int .u64 a0.Dst, .int .u64 a0.Src, .bool a1.Has, .int .i64 a1.Pri, .bool a1.Dei, .int .i64 a1.Vid, .int .i64 a0.Type_, .string a0.Body] 26 (0, 0)), ((b1 + 2), .cells #[.int .u64 a0.Dst, .int .u64 a0.Src, .bool a1.Has, .int .i64 a1.Pri, .bool a1.Dei, .int .i64 a1.Vid, .int .i64 a0.Type_, .string a0.Body] 26 (0, 0))]) (fun _ => [(b1 + 2), (b1 + 2), (b1 + 2), (b1 + 2), (b1 + 2), (b1 + 2), (b1 + 2), (b1 + 2), b1, b1, b1, b1, b1, b1, b1, b1]) (fun _ => by kernel_rfl) (fun _ => ?_)
  refine WP.keep [false, true] (by kernel_rfl : _ = [((b1 + 2), .cells #[.int .u64 a0.Dst, .int .u64 a0.Src, .bool a1.Has, .int .i64 a1.Pri, .bool a1.Dei, .int .i64 a1.Vid, .int .i64 a0.Type_, .string a0.Body] 26 (0, 0))]) ?_
  obtain rfl := Option.some.inj hM
  exact WP.ret [0, 0, 0, 0, 0, 0, 0, 0] [(b1 + 2), (b1 + 2), (b1 + 2), (b1 + 2), (b1 + 2), (b1 + 2), (b1 + 2), (b1 + 2)] (.agg #[.int .u64 a0.Dst, .int .u64 a0.Src, .bool a1.Has, .int .i64 a1.Pri, .bool a1.Dei, .int .i64 a1.Vid, .int .i64 a0.Type_, .string a0.Body]) (by kernel_rfl) (fun w' hw => ⟨rfl, hw.pick [] rfl⟩)

end Go.Proofs.YtefbjefmclhhjaaDoor

namespace Go.Proofs.YtefbjefmclhhjaaDoor
open Go Eng
set_option linter.unusedVariables false
set_option linter.unusedSimpArgs false

/-! ### gangway/gangwaylaw04.EtherTags: function 7 -/
def gangwaylaw04_EtherTags.k1 (x20 : Bool) : Option (Bool) :=
  some x20

def gangwaylaw04_EtherTags.k2 (x44 : Bool) : Option (Bool) :=
  some x44

def gangwaylaw04_EtherTags.k3 (k : Nat) (x40 : Bool) : Option (Bool) :=
  bif x40 then
    (gangwaylaw04_fixed.f k).bind fun r42 =>
    gangwaylaw04_EtherTags.k2 r42
  else
    gangwaylaw04_EtherTags.k2 false

def gangwaylaw04_EtherTags.k4 (r7 : api_Frame) (k : Nat) (r4 : api_Frame) (x36 : Bool) : Option (Bool) :=
  bif x36 then
    (ether_Bare.f r7).bind fun r38 =>
    gangwaylaw04_EtherTags.k3 k ((r38.Dst == r4.Dst) && ((r38.Src == r4.Src) && (((r38.Tag.Has == r4.Tag.Has) && ((r38.Tag.Pri == r4.Tag.Pri) && ((r38.Tag.Dei == r4.Tag.Dei) && ((r38.Tag.Vid == r4.Tag.Vid) && true)))) && ((r38.Type_ == r4.Type_) && ((r38.Body == r4.Body) && true)))))
  else
    gangwaylaw04_EtherTags.k3 k false

def gangwaylaw04_EtherTags.k5 (r13 : ByteArray) (r10 : ByteArray) (r7 : api_Frame) (k : Nat) (r4 : api_Frame) (x30 : Bool) : Option (Bool) :=
  bif x30 then
    (sliceS r13 16 (r13.size : Int)).bind fun t32 =>
    (sliceS r10 12 (r10.size : Int)).bind fun t34 =>
    gangwaylaw04_EtherTags.k4 r7 k r4 (t32.toList == t34.toList)
  else
    gangwaylaw04_EtherTags.k4 r7 k r4 false

def gangwaylaw04_EtherTags.k6 (r13 : ByteArray) (r10 : ByteArray) (r7 : api_Frame) (k : Nat) (r4 : api_Frame) (x26 : Bool) : Option (Bool) :=
  bif x26 then
    (sliceS r13 12 14).bind fun t28 =>
    gangwaylaw04_EtherTags.k5 r13 r10 r7 k r4 (t28.toList == (⟨#[129, 0]⟩ : ByteArray).toList)
  else
    gangwaylaw04_EtherTags.k5 r13 r10 r7 k r4 false

def gangwaylaw04_EtherTags.f (k : Nat) (a0 : api_Frame) (a1 : Int) : Option (Bool) :=
  (sliceS a0.Body 0 (imin (a0.Body.size : Int) 1400)).bind fun t2 =>
  (ether_Bare.f (api_Frame.mk a0.Dst a0.Src a0.Tag a0.Type_ t2)).bind fun r4 =>
  (ether_Tagged.f (api_Frame.mk a0.Dst a0.Src a0.Tag a0.Type_ t2) (api_Tag.mk true 0 false (bAnd .i64 a1 4095))).bind fun r7 =>
  (ether_Build.f k r4).bind fun (r10, r11) =>
  (ether_Build.f k r7).bind fun (r13, r14) =>
  bif ((r11 != 0) || (r14 != 0)) then
    bif (((r11 == r14) && (r10.toList == (⟨#[]⟩ : ByteArray).toList)) && (r13.toList == (⟨#[]⟩ : ByteArray).toList)) then
      (gangwaylaw04_fixed.f k).bind fun r18 =>
      gangwaylaw04_EtherTags.k1 r18
    else
      gangwaylaw04_EtherTags.k1 false
  else
    bif (((r13.size : Int) == (i64 ((r10.size : Int) + 4))) && (decide ((r10.size : Int) ≥ 14))) then
      (sliceS r13 0 12).bind fun t22 =>
      (sliceS r10 0 12).bind fun t24 =>
      gangwaylaw04_EtherTags.k6 r13 r10 r7 k r4 (t22.toList == t24.toList)
    else
      gangwaylaw04_EtherTags.k6 r13 r10 r7 k r4 false

set_option maxRecDepth 100000 in
theorem gangwaylaw04_EtherTags_calls (k : Nat) (a0 : api_Frame) (a1 : Int) (r : Bool) (h : gangwaylaw04_EtherTags.f k a0 a1 = some r) : Pure Tryd.prog Glob 7 #[.agg #[.int .u64 a0.Dst, .int .u64 a0.Src, .bool a0.Tag.Has, .int .i64 a0.Tag.Pri, .bool a0.Tag.Dei, .int .i64 a0.Tag.Vid, .int .i64 a0.Type_, .string a0.Body], .int .i64 a1] (.bool r) := by
  intro w Z hS
  refine calls_of (args := [.agg #[.int .u64 a0.Dst, .int .u64 a0.Src, .bool a0.Tag.Has, .int .i64 a0.Tag.Pri, .bool a0.Tag.Dei, .int .i64 a0.Tag.Vid, .int .i64 a0.Type_, .string a0.Body], .int .i64 a1]) (L := [(0, .agg #[.int .u64 a0.Dst, .int .u64 a0.Src, .bool a0.Tag.Has, .int .i64 a0.Tag.Pri, .bool a0.Tag.Dei, .int .i64 a0.Tag.Vid, .int .i64 a0.Type_, .string a0.Body]), (1, .int .i64 a1)]) (N := 95) (S := Sat w Z [] [] Glob) Tryd.func7 rfl rfl (Nat.le_of_ble_eq_true rfl) rfl hS ?_
  have hM := h
  clear h hS
  unfold gangwaylaw04_EtherTags.f at hM
  refine WP.seq ?_
  refine WP.run [] [1, 2, 4] (fun b1 => [(1, .int .i64 a1), (2, .pointer (some ⟨b1, 0, none⟩)), (4, .bool false)]) (fun b1 => [(b1, .cells #[.int .u64 a0.Dst, .int .u64 a0.Src, .bool a0.Tag.Has, .int .i64 a0.Tag.Pri, .bool a0.Tag.Dei, .int .i64 a0.Tag.Vid, .int .i64 a0.Type_, .string a0.Body] 26 (0, 0))]) (fun b1 => []) (fun b1 => by kernel_rfl) (fun b1 => ?_)
  refine WP.seq ?_
  refine WP.region ?_
  refine WL.run 6 [0, 0] [1, 2, 4, 12, 16] (fun _ => [(1, .int .i64 a1), (2, .pointer (some ⟨b1, 0, none⟩)), (4, .bool false), (12, .string a0.Body), (16, .int .i64 (imin (a0.Body.size : Int) 1400))]) (fun _ => [(b1, .cells #[.int .u64 a0.Dst, .int .u64 a0.Src, .bool a0.Tag.Has, .int .i64 a0.Tag.Pri, .bool a0.Tag.Dei, .int .i64 a0.Tag.Vid, .int .i64 a0.Type_, .string a0.Body] 26 (0, 0))]) (fun _ => [b1, b1]) (fun _ => by kernel_rfl) (fun _ => ?_)
  obtain ⟨t2, h3, hM⟩ := bind_some hM
  refine WL.val (fun _ => run_sliceS_hi (s := a0.Body) (kh := .i64) (h := imin (a0.Body.size : Int) 1400) (by kernel_rfl) (by kernel_rfl) (by kernel_rfl) h3) (by kernel_rfl) (by kernel_rfl) rfl ?_
  refine WL.run 2 [0] [1, 2, 4] (fun _ => [(1, .int .i64 a1), (2, .pointer (some ⟨b1, 0, none⟩)), (4, .bool false)]) (fun _ => [(b1, .cells #[.int .u64 a0.Dst, .int .u64 a0.Src, .bool a0.Tag.Has, .int .i64 a0.Tag.Pri, .bool a0.Tag.Dei, .int .i64 a0.Tag.Vid, .int .i64 a0.Type_, .string t2] 26 (0, 0))]) (fun _ => [b1]) (fun _ => by kernel_rfl) (fun _ => ?_)
  refine WP.done ?_
  refine WP.seq ?_
  refine WP.region ?_
  refine WL.run 1 [0, 0, 0, 0, 0, 0, 0, 0] [1, 2, 4, 19] (fun _ => [(1, .int .i64 a1), (2, .pointer (some ⟨b1, 0, none⟩)), (4, .bool false), (19, .agg #[.int .u64 a0.Dst, .int .u64 a0.Src, .bool a0.Tag.Has, .int .i64 a0.Tag.Pri, .bool a0.Tag.Dei, .int .i64 a0.Tag.Vid, .int .i64 a0.Type_, .string t2])]) (fun _ => [(b1, .cells #[.int .u64 a0.Dst, .int .u64 a0.Src, .bool a0.Tag.Has, .int .i64 a0.Tag.Pri, .bool a0.Tag.Dei, .int .i64 a0.Tag.Vid, .int .i64 a0.Type_, .string t2] 26 (0, 0))]) (fun _ => [b1, b1, b1, b1, b1, b1, b1, b1]) (fun _ => by kernel_rfl) (fun _ => ?_)
  obtain ⟨r4, h5, hM⟩ := bind_some hM
  refine WL.callP [] [] (ether_Bare_calls (api_Frame.mk a0.Dst a0.Src a0.Tag a0.Type_ t2) _ h5) (fun _ h => h) (by kernel_rfl) (by kernel_rfl) rfl ?_
  refine WL.run 2 [1, 1, 1, 1, 1, 1, 1, 1] [1, 2, 4, 5] (fun b6 => [(1, .int .i64 a1), (2, .pointer (some ⟨b1, 0, none⟩)), (4, .bool false), (5, .pointer (some ⟨b6, 0, none⟩))]) (fun b6 => [(b1, .cells #[.int .u64 a0.Dst, .int .u64 a0.Src, .bool a0.Tag.Has, .int .i64 a0.Tag.Pri, .bool a0.Tag.Dei, .int .i64 a0.Tag.Vid, .int .i64 a0.Type_, .string t2] 26 (0, 0)), (b6, .cells #[.int .u64 r4.Dst, .int .u64 r4.Src, .bool r4.Tag.Has, .int .i64 r4.Tag.Pri, .bool r4.Tag.Dei, .int .i64 r4.Tag.Vid, .int .i64 r4.Type_, .string r4.Body] 26 (0, 0))]) (fun b6 => [b6, b6, b6, b6, b6, b6, b6, b6]) (fun b6 => by kernel_rfl) (fun b6 => ?_)
  refine WP.done ?_
  refine WP.seq ?_
  refine WP.region ?_
  refine WL.run 4 [0, 0, 0, 0, 0, 0, 0, 0] [4, 5, 21, 24] (fun _ => [(4, .bool false), (5, .pointer (some ⟨b6, 0, none⟩)), (21, .agg #[.int .u64 a0.Dst, .int .u64 a0.Src, .bool a0.Tag.Has, .int .i64 a0.Tag.Pri, .bool a0.Tag.Dei, .int .i64 a0.Tag.Vid, .int .i64 a0.Type_, .string t2]), (24, .agg #[.bool true, .int .i64 0, .bool false, .int .i64 (bAnd .i64 a1 4095)])]) (fun _ => [(b1, .cells #[.int .u64 a0.Dst, .int .u64 a0.Src, .bool a0.Tag.Has, .int .i64 a0.Tag.Pri, .bool a0.Tag.Dei, .int .i64 a0.Tag.Vid, .int .i64 a0.Type_, .string t2] 26 (0, 0)), (b6, .cells #[.int .u64 r4.Dst, .int .u64 r4.Src, .bool r4.Tag.Has, .int .i64 r4.Tag.Pri, .bool r4.Tag.Dei, .int .i64 r4.Tag.Vid, .int .i64 r4.Type_, .string r4.Body] 26 (0, 0))]) (fun _ => [b1, b1, b1, b1, b1, b1, b1, b1]) (fun _ => by kernel_rfl) (fun _ => ?_)
  obtain ⟨r7, h8, hM⟩ := bind_some hM
  refine WL.callP [] [] (ether_Tagged_calls (api_Frame.mk a0.Dst a0.Src a0.Tag a0.Type_ t2) (api_Tag.mk true 0 false (bAnd .i64 a1 4095)) _ h8) (fun _ h => h) (by kernel_rfl) (by kernel_rfl) rfl ?_
  refine WL.run 2 [2, 2, 2, 2, 2, 2, 2, 2] [4, 5, 6] (fun b9 => [(4, .bool false), (5, .pointer (some ⟨b6, 0, none⟩)), (6, .pointer (some ⟨b9, 0, none⟩))]) (fun b9 => [(b1, .cells #[.int .u64 a0.Dst, .int .u64 a0.Src, .bool a0.Tag.Has, .int .i64 a0.Tag.Pri, .bool a0.Tag.Dei, .int .i64 a0.Tag.Vid, .int .i64 a0.Type_, .string t2] 26 (0, 0)), (b6, .cells #[.int .u64 r4.Dst, .int .u64 r4.Src, .bool r4.Tag.Has, .int .i64 r4.Tag.Pri, .bool r4.Tag.Dei, .int .i64 r4.Tag.Vid, .int .i64 r4.Type_, .string r4.Body] 26 (0, 0)), (b9, .cells #[.int .u64 r7.Dst, .int .u64 r7.Src, .bool r7.Tag.Has, .int .i64 r7.Tag.Pri, .bool r7.Tag.Dei, .int .i64 r7.Tag.Vid, .int .i64 r7.Type_, .string r7.Body] 26 (0, 0))]) (fun b9 => [b9, b9, b9, b9, b9, b9, b9, b9]) (fun b9 => by kernel_rfl) (fun b9 => ?_)
  refine WP.done ?_
  refine WP.keep [false, true, true] (by kernel_rfl : _ = [(b6, .cells #[.int .u64 r4.Dst, .int .u64 r4.Src, .bool r4.Tag.Has, .int .i64 r4.Tag.Pri, .bool r4.Tag.Dei, .int .i64 r4.Tag.Vid, .int .i64 r4.Type_, .string r4.Body] 26 (0, 0)), (b9, .cells #[.int .u64 r7.Dst, .int .u64 r7.Src, .bool r7.Tag.Has, .int .i64 r7.Tag.Pri, .bool r7.Tag.Dei, .int .i64 r7.Tag.Vid, .int .i64 r7.Type_, .string r7.Body] 26 (0, 0))]) ?_
  refine WP.seq ?_
  refine WP.region ?_
  refine WL.run 1 [0, 0, 0, 0, 0, 0, 0, 0] [4, 5, 6, 27] (fun _ => [(4, .bool false), (5, .pointer (some ⟨b6, 0, none⟩)), (6, .pointer (some ⟨b9, 0, none⟩)), (27, .agg #[.int .u64 r4.Dst, .int .u64 r4.Src, .bool r4.Tag.Has, .int .i64 r4.Tag.Pri, .bool r4.Tag.Dei, .int .i64 r4.Tag.Vid, .int .i64 r4.Type_, .string r4.Body])]) (fun _ => [(b6, .cells #[.int .u64 r4.Dst, .int .u64 r4.Src, .bool r4.Tag.Has, .int .i64 r4.Tag.Pri, .bool r4.Tag.Dei, .int .i64 r4.Tag.Vid, .int .i64 r4.Type_, .string r4.Body] 26 (0, 0)), (b9, .cells #[.int .u64 r7.Dst, .int .u64 r7.Src, .bool r7.Tag.Has, .int .i64 r7.Tag.Pri, .bool r7.Tag.Dei, .int .i64 r7.Tag.Vid, .int .i64 r7.Type_, .string r7.Body] 26 (0, 0))]) (fun _ => [b6, b6, b6, b6, b6, b6, b6, b6]) (fun _ => by kernel_rfl) (fun _ => ?_)
  obtain ⟨⟨r10, r11⟩, h12, hM⟩ := bind_some hM
  dsimp only at hM
  refine WL.callP [] [] (ether_Build_calls k r4 _ h12) (fun _ h => h) (by kernel_rfl) (by kernel_rfl) rfl ?_
  refine WL.run 5 [] [4, 5, 6, 7, 8] (fun _ => [(4, .bool false), (5, .pointer (some ⟨b6, 0, none⟩)), (6, .pointer (some ⟨b9, 0, none⟩)), (7, .string r10), (8, .int .i64 r11)]) (fun _ => [(b6, .cells #[.int .u64 r4.Dst, .int .u64 r4.Src, .bool r4.Tag.Has, .int .i64 r4.Tag.Pri, .bool r4.Tag.Dei, .int .i64 r4.Tag.Vid, .int .i64 r4.Type_, .string r4.Body] 26 (0, 0)), (b9, .cells #[.int .u64 r7.Dst, .int .u64 r7.Src, .bool r7.Tag.Has, .int .i64 r7.Tag.Pri, .bool r7.Tag.Dei, .int .i64 r7.Tag.Vid, .int .i64 r7.Type_, .string r7.Body] 26 (0, 0))]) (fun _ => []) (fun _ => by kernel_rfl) (fun _ => ?_)
  refine WP.done ?_
  refine WP.seq ?_
  refine WP.region ?_
  refine WL.run 1 [1, 1, 1, 1, 1, 1, 1, 1] [4, 5, 6, 7, 8, 32] (fun _ => [(4, .bool false), (5, .pointer (some ⟨b6, 0, none⟩)), (6, .pointer (some ⟨b9, 0, none⟩)), (7, .string r10), (8, .int .i64 r11), (32, .agg #[.int .u64 r7.Dst, .int .u64 r7.Src, .bool r7.Tag.Has, .int .i64 r7.Tag.Pri, .bool r7.Tag.Dei, .int .i64 r7.Tag.Vid, .int .i64 r7.Type_, .string r7.Body])]) (fun _ => [(b6, .cells #[.int .u64 r4.Dst, .int .u64 r4.Src, .bool r4.Tag.Has, .int .i64 r4.Tag.Pri, .bool r4.Tag.Dei, .int .i64 r4.Tag.Vid, .int .i64 r4.Type_, .string r4.Body] 26 (0, 0)), (b9, .cells #[.int .u64 r7.Dst, .int .u64 r7.Src, .bool r7.Tag.Has, .int .i64 r7.Tag.Pri, .bool r7.Tag.Dei, .int .i64 r7.Tag.Vid, .int .i64 r7.Type_, .string r7.Body] 26 (0, 0))]) (fun _ => [b9, b9, b9, b9, b9, b9, b9, b9]) (fun _ => by kernel_rfl) (fun _ => ?_)
  obtain ⟨⟨r13, r14⟩, h15, hM⟩ := bind_some hM
  dsimp only at hM
  refine WL.callP [] [] (ether_Build_calls k r7 _ h15) (fun _ h => h) (by kernel_rfl) (by kernel_rfl) rfl ?_
  refine WL.run 5 [] [4, 5, 6, 7, 8, 9, 10] (fun _ => [(4, .bool false), (5, .pointer (some ⟨b6, 0, none⟩)), (6, .pointer (some ⟨b9, 0, none⟩)), (7, .string r10), (8, .int .i64 r11), (9, .string r13), (10, .int .i64 r14)]) (fun _ => [(b6, .cells #[.int .u64 r4.Dst, .int .u64 r4.Src, .bool r4.Tag.Has, .int .i64 r4.Tag.Pri, .bool r4.Tag.Dei, .int .i64 r4.Tag.Vid, .int .i64 r4.Type_, .string r4.Body] 26 (0, 0)), (b9, .cells #[.int .u64 r7.Dst, .int .u64 r7.Src, .bool r7.Tag.Has, .int .i64 r7.Tag.Pri, .bool r7.Tag.Dei, .int .i64 r7.Tag.Vid, .int .i64 r7.Type_, .string r7.Body] 26 (0, 0))]) (fun _ => []) (fun _ => by kernel_rfl) (fun _ => ?_)
  refine WP.done ?_
  refine WP.seq ?_
  refine WP.seq ?_
  refine WP.region ?_
  refine WL.run 3 [] [4, 5, 6, 7, 8, 9, 10, 38] (fun _ => [(4, .bool false), (5, .pointer (some ⟨b6, 0, none⟩)), (6, .pointer (some ⟨b9, 0, none⟩)), (7, .string r10), (8, .int .i64 r11), (9, .string r13), (10, .int .i64 r14), (38, .bool (r11 != 0))]) (fun _ => [(b6, .cells #[.int .u64 r4.Dst, .int .u64 r4.Src, .bool r4.Tag.Has, .int .i64 r4.Tag.Pri, .bool r4.Tag.Dei, .int .i64 r4.Tag.Vid, .int .i64 r4.Type_, .string r4.Body] 26 (0, 0)), (b9, .cells #[.int .u64 r7.Dst, .int .u64 r7.Src, .bool r7.Tag.Has, .int .i64 r7.Tag.Pri, .bool r7.Tag.Dei, .int .i64 r7.Tag.Vid, .int .i64 r7.Type_, .string r7.Body] 26 (0, 0))]) (fun _ => []) (fun _ => by kernel_rfl) (fun _ => ?_)
  refine WL.sub [4, 5, 6, 7, 8, 9, 10, 38] (L' := [(4, .bool false), (5, .pointer (some ⟨b6, 0, none⟩)), (6, .pointer (some ⟨b9, 0, none⟩)), (7, .string r10), (8, .int .i64 r11), (9, .string r13), (10, .int .i64 r14), (38, .bool (r11 != 0))]) (by kernel_rfl) ?_
  refine WL.both (fun b' => [(4, .bool false), (5, .pointer (some ⟨b6, 0, none⟩)), (6, .pointer (some ⟨b9, 0, none⟩)), (7, .string r10), (8, .int .i64 r11), (9, .string r13), (10, .int .i64 r14), (38, .bool b')]) (r11 != 0) 3 [] [] [4, 5, 6, 7, 8, 9, 10, 41] (fun b' => [(4, .bool false), (5, .pointer (some ⟨b6, 0, none⟩)), (6, .pointer (some ⟨b9, 0, none⟩)), (7, .string r10), (8, .int .i64 r11), (9, .string r13), (10, .int .i64 r14), (41, .bool (b' || (r14 != 0)))]) [] [] (fun _ => by kernel_rfl) (fun _ => by kernel_rfl) ?_
  refine WP.done ?_
  refine WP.cond ((r11 != 0) || (r14 != 0)) rfl rfl (fun c16 => ?_) (fun c16 => ?_)
  · replace hM := cond_t hM c16
    refine WP.seq ?_
    refine WP.region ?_
    refine WL.run 4 [] [4, 5, 6, 7, 9, 45] (fun _ => [(4, .bool false), (5, .pointer (some ⟨b6, 0, none⟩)), (6, .pointer (some ⟨b9, 0, none⟩)), (7, .string r10), (9, .string r13), (45, .bool (r11 == r14))]) (fun _ => [(b6, .cells #[.int .u64 r4.Dst, .int .u64 r4.Src, .bool r4.Tag.Has, .int .i64 r4.Tag.Pri, .bool r4.Tag.Dei, .int .i64 r4.Tag.Vid, .int .i64 r4.Type_, .string r4.Body] 26 (0, 0)), (b9, .cells #[.int .u64 r7.Dst, .int .u64 r7.Src, .bool r7.Tag.Has, .int .i64 r7.Tag.Pri, .bool r7.Tag.Dei, .int .i64 r7.Tag.Vid, .int .i64 r7.Type_, .string r7.Body] 26 (0, 0))]) (fun _ => []) (fun _ => by kernel_rfl) (fun _ => ?_)
    refine WL.sub [4, 5, 6, 7, 9, 45] (L' := [(4, .bool false), (5, .pointer (some ⟨b6, 0, none⟩)), (6, .pointer (some ⟨b9, 0, none⟩)), (7, .string r10), (9, .string r13), (45, .bool (r11 == r14))]) (by kernel_rfl) ?_
    refine WL.both (fun b' => [(4, .bool false), (5, .pointer (some ⟨b6, 0, none⟩)), (6, .pointer (some ⟨b9, 0, none⟩)), (7, .string r10), (9, .string r13), (45, .bool b')]) (r11 == r14) 3 [] [] [4, 5, 6, 7, 9, 48] (fun b' => [(4, .bool false), (5, .pointer (some ⟨b6, 0, none⟩)), (6, .pointer (some ⟨b9, 0, none⟩)), (7, .string r10), (9, .string r13), (48, .bool (b' && (r10.toList == (⟨#[]⟩ : ByteArray).toList)))]) [] [] (fun _ => by kernel_rfl) (fun _ => by kernel_rfl) ?_
    refine WL.run 1 [] [4, 5, 6, 7, 9, 49] (fun _ => [(4, .bool false), (5, .pointer (some ⟨b6, 0, none⟩)), (6, .pointer (some ⟨b9, 0, none⟩)), (7, .string r10), (9, .string r13), (49, .bool ((r11 == r14) && (r10.toList == (⟨#[]⟩ : ByteArray).toList)))]) (fun _ => [(b6, .cells #[.int .u64 r4.Dst, .int .u64 r4.Src, .bool r4.Tag.Has, .int .i64 r4.Tag.Pri, .bool r4.Tag.Dei, .int .i64 r4.Tag.Vid, .int .i64 r4.Type_, .string r4.Body] 26 (0, 0)), (b9, .cells #[.int .u64 r7.Dst, .int .u64 r7.Src, .bool r7.Tag.Has, .int .i64 r7.Tag.Pri, .bool r7.Tag.Dei, .int .i64 r7.Tag.Vid, .int .i64 r7.Type_, .string r7.Body] 26 (0, 0))]) (fun _ => []) (fun _ => by kernel_rfl) (fun _ => ?_)
    refine WL.sub [4, 5, 6, 7, 9, 49] (L' := [(4, .bool false), (5, .pointer (some ⟨b6, 0, none⟩)), (6, .pointer (some ⟨b9, 0, none⟩)), (7, .string r10), (9, .string r13), (49, .bool ((r11 == r14) && (r10.toList == (⟨#[]⟩ : ByteArray).toList)))]) (by kernel_rfl) ?_
    refine WL.both (fun b' => [(4, .bool false), (5, .pointer (some ⟨b6, 0, none⟩)), (6, .pointer (some ⟨b9, 0, none⟩)), (7, .string r10), (9, .string r13), (49, .bool b')]) ((r11 == r14) && (r10.toList == (⟨#[]⟩ : ByteArray).toList)) 3 [] [] [4, 5, 6, 7, 9, 52] (fun b' => [(4, .bool false), (5, .pointer (some ⟨b6, 0, none⟩)), (6, .pointer (some ⟨b9, 0, none⟩)), (7, .string r10), (9, .string r13), (52, .bool (b' && (r13.toList == (⟨#[]⟩ : ByteArray).toList)))]) [] [] (fun _ => by kernel_rfl) (fun _ => by kernel_rfl) ?_
    refine WL.run 1 [] [4, 5, 6, 7, 9, 53] (fun _ => [(4, .bool false), (5, .pointer (some ⟨b6, 0, none⟩)), (6, .pointer (some ⟨b9, 0, none⟩)), (7, .string r10), (9, .string r13), (53, .bool (((r11 == r14) && (r10.toList == (⟨#[]⟩ : ByteArray).toList)) && (r13.toList == (⟨#[]⟩ : ByteArray).toList)))]) (fun _ => [(b6, .cells #[.int .u64 r4.Dst, .int .u64 r4.Src, .bool r4.Tag.Has, .int .i64 r4.Tag.Pri, .bool r4.Tag.Dei, .int .i64 r4.Tag.Vid, .int .i64 r4.Type_, .string r4.Body] 26 (0, 0)), (b9, .cells #[.int .u64 r7.Dst, .int .u64 r7.Src, .bool r7.Tag.Has, .int .i64 r7.Tag.Pri, .bool r7.Tag.Dei, .int .i64 r7.Tag.Vid, .int .i64 r7.Type_, .string r7.Body] 26 (0, 0))]) (fun _ => []) (fun _ => by kernel_rfl) (fun _ => ?_)
    refine WL.sub [4, 5, 6, 7, 9, 53] (L' := [(4, .bool false), (5, .pointer (some ⟨b6, 0, none⟩)), (6, .pointer (some ⟨b9, 0, none⟩)), (7, .string r10), (9, .string r13), (53, .bool (((r11 == r14) && (r10.toList == (⟨#[]⟩ : ByteArray).toList)) && (r13.toList == (⟨#[]⟩ : ByteArray).toList)))]) (by kernel_rfl) ?_
    refine WL.join (σ := Bool) 2 (fun st => gangwaylaw04_EtherTags.k1 st = some r) (fun st => [(4, .bool false), (5, .pointer (some ⟨b6, 0, none⟩)), (6, .pointer (some ⟨b9, 0, none⟩)), (7, .string r10), (9, .string r13), (55, .bool st)]) (fun st => Sat w Z [(b6, .cells #[.int .u64 r4.Dst, .int .u64 r4.Src, .bool r4.Tag.Has, .int .i64 r4.Tag.Pri, .bool r4.Tag.Dei, .int .i64 r4.Tag.Vid, .int .i64 r4.Type_, .string r4.Body] 26 (0, 0)), (b9, .cells #[.int .u64 r7.Dst, .int .u64 r7.Src, .bool r7.Tag.Has, .int .i64 r7.Tag.Pri, .bool r7.Tag.Dei, .int .i64 r7.Tag.Vid, .int .i64 r7.Type_, .string r7.Body] 26 (0, 0))] [] Glob) (fun st hM => ?_) (fun K1 => ?_)
    ·
      obtain ⟨x20, rfl⟩ : ∃ y, y = st := ⟨st, rfl⟩
      replace hM : gangwaylaw04_EtherTags.k1 x20 = some r := hM
      unfold gangwaylaw04_EtherTags.k1 at hM
      show WL _ _ _ _ _ [(4, .bool false), (5, .pointer (some ⟨b6, 0, none⟩)), (6, .pointer (some ⟨b9, 0, none⟩)), (7, .string r10), (9, .string r13), (55, .bool x20)] (Sat w Z [(b6, .cells #[.int .u64 r4.Dst, .int .u64 r4.Src, .bool r4.Tag.Has, .int .i64 r4.Tag.Pri, .bool r4.Tag.Dei, .int .i64 r4.Tag.Vid, .int .i64 r4.Type_, .string r4.Body] 26 (0, 0)), (b9, .cells #[.int .u64 r7.Dst, .int .u64 r7.Src, .bool r7.Tag.Has, .int .i64 r7.Tag.Pri, .bool r7.Tag.Dei, .int .i64 r7.Tag.Vid, .int .i64 r7.Type_, .string r7.Body] 26 (0, 0))] [] Glob)
      refine WL.run 1 [] [4, 5, 6, 7, 9] (fun _ => [(4, .bool x20), (5, .pointer (some ⟨b6, 0, none⟩)), (6, .pointer (some ⟨b9, 0, none⟩)), (7, .string r10), (9, .string r13)]) (fun _ => [(b6, .cells #[.int .u64 r4.Dst, .int .u64 r4.Src, .bool r4.Tag.Has, .int .i64 r4.Tag.Pri, .bool r4.Tag.Dei, .int .i64 r4.Tag.Vid, .int .i64 r4.Type_, .string r4.Body] 26 (0, 0)), (b9, .cells #[.int .u64 r7.Dst, .int .u64 r7.Src, .bool r7.Tag.Has, .int .i64 r7.Tag.Pri, .bool r7.Tag.Dei, .int .i64 r7.Tag.Vid, .int .i64 r7.Type_, .string r7.Body] 26 (0, 0))]) (fun _ => []) (fun _ => by kernel_rfl) (fun _ => ?_)
      refine WP.done ?_
      obtain rfl := Option.some.inj hM
      exact WP.ret [] [] (.bool x20) (by kernel_rfl) (fun w' hw => ⟨rfl, hw.pick [] rfl⟩)
    ·
      refine WL.split (fun b' => [(4, .bool false), (5, .pointer (some ⟨b6, 0, none⟩)), (6, .pointer (some ⟨b9, 0, none⟩)), (7, .string r10), (9, .string r13), (53, .bool b')]) (((r11 == r14) && (r10.toList == (⟨#[]⟩ : ByteArray).toList)) && (r13.toList == (⟨#[]⟩ : ByteArray).toList)) (fun c17 => ?_) (fun c17 => ?_)
      · replace hM := cond_t hM c17
        obtain ⟨r18, h19, hM⟩ := bind_some hM
        refine WL.callP [] [] (gangwaylaw04_fixed_calls k _ h19) (fun _ h => h) (by kernel_rfl) (by kernel_rfl) rfl ?_
        refine WL.run 1 [] [4, 5, 6, 7, 9, 55] (fun _ => [(4, .bool false), (5, .pointer (some ⟨b6, 0, none⟩)), (6, .pointer (some ⟨b9, 0, none⟩)), (7, .string r10), (9, .string r13), (55, .bool r18)]) (fun _ => [(b6, .cells #[.int .u64 r4.Dst, .int .u64 r4.Src, .bool r4.Tag.Has, .int .i64 r4.Tag.Pri, .bool r4.Tag.Dei, .int .i64 r4.Tag.Vid, .int .i64 r4.Type_, .string r4.Body] 26 (0, 0)), (b9, .cells #[.int .u64 r7.Dst, .int .u64 r7.Src, .bool r7.Tag.Has, .int .i64 r7.Tag.Pri, .bool r7.Tag.Dei, .int .i64 r7.Tag.Vid, .int .i64 r7.Type_, .string r7.Body] 26 (0, 0))]) (fun _ => []) (fun _ => by kernel_rfl) (fun _ => ?_)
        exact WL.sub [4, 5, 6, 7, 9, 55] (by kernel_rfl) (WL.pick [0, 1] (by kernel_rfl) (by kernel_rfl) (K1 r18 hM))
      · replace hM := cond_f hM c17
        refine WL.run 2 [] [4, 5, 6, 7, 9, 55] (fun _ => [(4, .bool false), (5, .pointer (some ⟨b6, 0, none⟩)), (6, .pointer (some ⟨b9, 0, none⟩)), (7, .string r10), (9, .string r13), (55, .bool false)]) (fun _ => [(b6, .cells #[.int .u64 r4.Dst, .int .u64 r4.Src, .bool r4.Tag.Has, .int .i64 r4.Tag.Pri, .bool r4.Tag.Dei, .int .i64 r4.Tag.Vid, .int .i64 r4.Type_, .string r4.Body] 26 (0, 0)), (b9, .cells #[.int .u64 r7.Dst, .int .u64 r7.Src, .bool r7.Tag.Has, .int .i64 r7.Tag.Pri, .bool r7.Tag.Dei, .int .i64 r7.Tag.Vid, .int .i64 r7.Type_, .string r7.Body] 26 (0, 0))]) (fun _ => []) (fun _ => by kernel_rfl) (fun _ => ?_)
        exact WL.sub [4, 5, 6, 7, 9, 55] (by kernel_rfl) (WL.pick [0, 1] (by kernel_rfl) (by kernel_rfl) (K1 false hM))
  · replace hM := cond_f hM c16
    refine WP.skip ?_
    refine WP.seq ?_
    refine WP.quiet (by kernel_rfl) (by kernel_rfl) ?_
    refine QL.run 7 [] [4, 5, 6, 7, 9, 62] [] [(4, .bool false), (5, .pointer (some ⟨b6, 0, none⟩)), (6, .pointer (some ⟨b9, 0, none⟩)), (7, .string r10), (9, .string r13), (62, .bool ((r13.size : Int) == (i64 ((r10.size : Int) + 4))))] (by kernel_rfl) ?_
    refine QL.sub [4, 5, 6, 7, 9, 62] (L' := [(4, .bool false), (5, .pointer (some ⟨b6, 0, none⟩)), (6, .pointer (some ⟨b9, 0, none⟩)), (7, .string r10), (9, .string r13), (62, .bool ((r13.size : Int) == (i64 ((r10.size : Int) + 4))))]) (by kernel_rfl) ?_
    refine QL.both (fun b' => [(4, .bool false), (5, .pointer (some ⟨b6, 0, none⟩)), (6, .pointer (some ⟨b9, 0, none⟩)), (7, .string r10), (9, .string r13), (62, .bool b')]) ((r13.size : Int) == (i64 ((r10.size : Int) + 4))) 4 [] [] [4, 5, 6, 7, 9, 66] [] [] (fun b' => [(4, .bool false), (5, .pointer (some ⟨b6, 0, none⟩)), (6, .pointer (some ⟨b9, 0, none⟩)), (7, .string r10), (9, .string r13), (66, .bool (b' && (decide ((r10.size : Int) ≥ 14))))]) (by kernel_rfl) (by kernel_rfl) ?_
    refine QL.run 1 [] [4, 5, 6, 7, 9, 67] [] [(4, .bool false), (5, .pointer (some ⟨b6, 0, none⟩)), (6, .pointer (some ⟨b9, 0, none⟩)), (7, .string r10), (9, .string r13), (67, .bool (((r13.size : Int) == (i64 ((r10.size : Int) + 4))) && (decide ((r10.size : Int) ≥ 14))))] (by kernel_rfl) ?_
    refine QL.sub [4, 5, 6, 7, 9, 67] (L' := [(4, .bool false), (5, .pointer (some ⟨b6, 0, none⟩)), (6, .pointer (some ⟨b9, 0, none⟩)), (7, .string r10), (9, .string r13), (67, .bool (((r13.size : Int) == (i64 ((r10.size : Int) + 4))) && (decide ((r10.size : Int) ≥ 14))))]) (by kernel_rfl) ?_
    refine QL.join (σ := Bool) 6 (fun st => gangwaylaw04_EtherTags.k6 r13 r10 r7 k r4 st = some r) (fun st => [(4, .bool false), (5, .pointer (some ⟨b6, 0, none⟩)), (6, .pointer (some ⟨b9, 0, none⟩)), (7, .string r10), (9, .string r13), (73, .bool st)]) (fun st hM => ?_) (fun K6 => ?_)
    ·
      obtain ⟨x26, rfl⟩ : ∃ y, y = st := ⟨st, rfl⟩
      replace hM : gangwaylaw04_EtherTags.k6 r13 r10 r7 k r4 x26 = some r := hM
      unfold gangwaylaw04_EtherTags.k6 at hM
      show QL _ _ _ _ _ _ [(4, .bool false), (5, .pointer (some ⟨b6, 0, none⟩)), (6, .pointer (some ⟨b9, 0, none⟩)), (7, .string r10), (9, .string r13), (73, .bool x26)]
      refine QL.run 1 [] [4, 5, 6, 7, 9, 74] [] [(4, .bool false), (5, .pointer (some ⟨b6, 0, none⟩)), (6, .pointer (some ⟨b9, 0, none⟩)), (7, .string r10), (9, .string r13), (74, .bool x26)] (by kernel_rfl) ?_
      refine QL.sub [4, 5, 6, 7, 9, 74] (L' := [(4, .bool false), (5, .pointer (some ⟨b6, 0, none⟩)), (6, .pointer (some ⟨b9, 0, none⟩)), (7, .string r10), (9, .string r13), (74, .bool x26)]) (by kernel_rfl) ?_
      refine QL.join (σ := Bool) 4 (fun st => gangwaylaw04_EtherTags.k5 r13 r10 r7 k r4 st = some r) (fun st => [(4, .bool false), (5, .pointer (some ⟨b6, 0, none⟩)), (6, .pointer (some ⟨b9, 0, none⟩)), (7, .string r10), (9, .string r13), (78, .bool st)]) (fun st hM => ?_) (fun K5 => ?_)
      ·
        obtain ⟨x30, rfl⟩ : ∃ y, y = st := ⟨st, rfl⟩
        replace hM : gangwaylaw04_EtherTags.k5 r13 r10 r7 k r4 x30 = some r := hM
        unfold gangwaylaw04_EtherTags.k5 at hM
        show QL _ _ _ _ _ _ [(4, .bool false), (5, .pointer (some ⟨b6, 0, none⟩)), (6, .pointer (some ⟨b9, 0, none⟩)), (7, .string r10), (9, .string r13), (78, .bool x30)]
        refine QL.run 1 [] [4, 5, 6, 7, 9, 79] [] [(4, .bool false), (5, .pointer (some ⟨b6, 0, none⟩)), (6, .pointer (some ⟨b9, 0, none⟩)), (7, .string r10), (9, .string r13), (79, .bool x30)] (by kernel_rfl) ?_
        refine QL.sub [4, 5, 6, 7, 9, 79] (L' := [(4, .bool false), (5, .pointer (some ⟨b6, 0, none⟩)), (6, .pointer (some ⟨b9, 0, none⟩)), (7, .string r10), (9, .string r13), (79, .bool x30)]) (by kernel_rfl) ?_
        refine QL.join (σ := Bool) 6 (fun st => gangwaylaw04_EtherTags.k4 r7 k r4 st = some r) (fun st => [(4, .bool false), (5, .pointer (some ⟨b6, 0, none⟩)), (6, .pointer (some ⟨b9, 0, none⟩)), (85, .bool st)]) (fun st hM => ?_) (fun K4 => ?_)
        ·
          obtain ⟨x36, rfl⟩ : ∃ y, y = st := ⟨st, rfl⟩
          replace hM : gangwaylaw04_EtherTags.k4 r7 k r4 x36 = some r := hM
          unfold gangwaylaw04_EtherTags.k4 at hM
          show QL _ _ _ _ _ _ [(4, .bool false), (5, .pointer (some ⟨b6, 0, none⟩)), (6, .pointer (some ⟨b9, 0, none⟩)), (85, .bool x36)]
          refine QL.run 1 [] [4, 5, 6, 86] [] [(4, .bool false), (5, .pointer (some ⟨b6, 0, none⟩)), (6, .pointer (some ⟨b9, 0, none⟩)), (86, .bool x36)] (by kernel_rfl) ?_
          refine QL.sub [4, 5, 6, 86] (L' := [(4, .bool false), (5, .pointer (some ⟨b6, 0, none⟩)), (6, .pointer (some ⟨b9, 0, none⟩)), (86, .bool x36)]) (by kernel_rfl) ?_
          refine QL.join (σ := Bool) 5 (fun st => gangwaylaw04_EtherTags.k3 k st = some r) (fun st => [(4, .bool false), (91, .bool st)]) (fun st hM => ?_) (fun K3 => ?_)
          ·
            obtain ⟨x40, rfl⟩ : ∃ y, y = st := ⟨st, rfl⟩
            replace hM : gangwaylaw04_EtherTags.k3 k x40 = some r := hM
            unfold gangwaylaw04_EtherTags.k3 at hM
            show QL _ _ _ _ _ _ [(4, .bool false), (91, .bool x40)]
            refine QL.run 1 [] [4, 92] [] [(4, .bool false), (92, .bool x40)] (by kernel_rfl) ?_
            refine QL.sub [4, 92] (L' := [(4, .bool false), (92, .bool x40)]) (by kernel_rfl) ?_
            refine QL.join (σ := Bool) 2 (fun st => gangwaylaw04_EtherTags.k2 st = some r) (fun st => [(4, .bool false), (94, .bool st)]) (fun st hM => ?_) (fun K2 => ?_)
            ·
              obtain ⟨x44, rfl⟩ : ∃ y, y = st := ⟨st, rfl⟩
              replace hM : gangwaylaw04_EtherTags.k2 x44 = some r := hM
              unfold gangwaylaw04_EtherTags.k2 at hM
              show QL _ _ _ _ _ _ [(4, .bool false), (94, .bool x44)]
              refine QL.run 1 [] [4] [] [(4, .bool x44)] (by kernel_rfl) ?_
              refine QL.done ?_
              refine WP.keep [false, false] (by kernel_rfl : _ = []) ?_
              obtain rfl := Option.some.inj hM
              exact WP.ret [] [] (.bool x44) (by kernel_rfl) (fun w' hw => ⟨rfl, hw.pick [] rfl⟩)
            ·
              refine QL.split (fun b' => [(4, .bool false), (92, .bool b')]) x40 (fun c41 => ?_) (fun c41 => ?_)
              · replace hM := cond_t hM c41
                obtain ⟨r42, h43, hM⟩ := bind_some hM
                refine QL.callP [] [] (gangwaylaw04_fixed_calls k _ h43) (fun _ h => h) (by kernel_rfl) (by kernel_rfl) rfl ?_
                refine QL.run 1 [] [4, 94] [] [(4, .bool false), (94, .bool r42)] (by kernel_rfl) ?_
                exact QL.sub [4, 94] (by kernel_rfl) (K2 r42 hM)
              · replace hM := cond_f hM c41
                refine QL.run 2 [] [4, 94] [] [(4, .bool false), (94, .bool false)] (by kernel_rfl) ?_
                exact QL.sub [4, 94] (by kernel_rfl) (K2 false hM)
          ·
            refine QL.split (fun b' => [(4, .bool false), (5, .pointer (some ⟨b6, 0, none⟩)), (6, .pointer (some ⟨b9, 0, none⟩)), (86, .bool b')]) x36 (fun c37 => ?_) (fun c37 => ?_)
            · replace hM := cond_t hM c37
              refine QL.run 1 [1, 1, 1, 1, 1, 1, 1, 1] [4, 5, 86, 87] [b9, b9, b9, b9, b9, b9, b9, b9] [(4, .bool false), (5, .pointer (some ⟨b6, 0, none⟩)), (86, .bool true), (87, .agg #[.int .u64 r7.Dst, .int .u64 r7.Src, .bool r7.Tag.Has, .int .i64 r7.Tag.Pri, .bool r7.Tag.Dei, .int .i64 r7.Tag.Vid, .int .i64 r7.Type_, .string r7.Body])] (by kernel_rfl) ?_
              obtain ⟨r38, h39, hM⟩ := bind_some hM
              refine QL.callP [] [] (ether_Bare_calls r7 _ h39) (fun _ h => h) (by kernel_rfl) (by kernel_rfl) rfl ?_
              refine QL.run 1 [0, 0, 0, 0, 0, 0, 0, 0] [4, 86, 88, 89] [b6, b6, b6, b6, b6, b6, b6, b6] [(4, .bool false), (86, .bool true), (88, .agg #[.int .u64 r38.Dst, .int .u64 r38.Src, .bool r38.Tag.Has, .int .i64 r38.Tag.Pri, .bool r38.Tag.Dei, .int .i64 r38.Tag.Vid, .int .i64 r38.Type_, .string r38.Body]), (89, .agg #[.int .u64 r4.Dst, .int .u64 r4.Src, .bool r4.Tag.Has, .int .i64 r4.Tag.Pri, .bool r4.Tag.Dei, .int .i64 r4.Tag.Vid, .int .i64 r4.Type_, .string r4.Body])] (by kernel_rfl) ?_
              refine QL.val (fun _ => run_structEq (xs := #[.int .u64 r38.Dst, .int .u64 r38.Src, .bool r38.Tag.Has, .int .i64 r38.Tag.Pri, .bool r38.Tag.Dei, .int .i64 r38.Tag.Vid, .int .i64 r38.Type_, .string r38.Body]) (ys := #[.int .u64 r4.Dst, .int .u64 r4.Src, .bool r4.Tag.Has, .int .i64 r4.Tag.Pri, .bool r4.Tag.Dei, .int .i64 r4.Tag.Vid, .int .i64 r4.Type_, .string r4.Body]) (b := ((r38.Dst == r4.Dst) && ((r38.Src == r4.Src) && (((r38.Tag.Has == r4.Tag.Has) && ((r38.Tag.Pri == r4.Tag.Pri) && ((r38.Tag.Dei == r4.Tag.Dei) && ((r38.Tag.Vid == r4.Tag.Vid) && true)))) && ((r38.Type_ == r4.Type_) && ((r38.Body == r4.Body) && true)))))) (by kernel_rfl) (by kernel_rfl) (by kernel_rfl) (by kernel_rfl)) (by kernel_rfl) (by kernel_rfl) rfl ?_
              refine QL.run 1 [] [4, 91] [] [(4, .bool false), (91, .bool ((r38.Dst == r4.Dst) && ((r38.Src == r4.Src) && (((r38.Tag.Has == r4.Tag.Has) && ((r38.Tag.Pri == r4.Tag.Pri) && ((r38.Tag.Dei == r4.Tag.Dei) && ((r38.Tag.Vid == r4.Tag.Vid) && true)))) && ((r38.Type_ == r4.Type_) && ((r38.Body == r4.Body) && true))))))] (by kernel_rfl) ?_
              exact QL.sub [4, 91] (by kernel_rfl) (K3 ((r38.Dst == r4.Dst) && ((r38.Src == r4.Src) && (((r38.Tag.Has == r4.Tag.Has) && ((r38.Tag.Pri == r4.Tag.Pri) && ((r38.Tag.Dei == r4.Tag.Dei) && ((r38.Tag.Vid == r4.Tag.Vid) && true)))) && ((r38.Type_ == r4.Type_) && ((r38.Body == r4.Body) && true))))) hM)
            · replace hM := cond_f hM c37
              refine QL.run 5 [] [4, 91] [] [(4, .bool false), (91, .bool false)] (by kernel_rfl) ?_
              exact QL.sub [4, 91] (by kernel_rfl) (K3 false hM)
        ·
          refine QL.split (fun b' => [(4, .bool false), (5, .pointer (some ⟨b6, 0, none⟩)), (6, .pointer (some ⟨b9, 0, none⟩)), (7, .string r10), (9, .string r13), (79, .bool b')]) x30 (fun c31 => ?_) (fun c31 => ?_)
          · replace hM := cond_t hM c31
            refine QL.run 1 [] [4, 5, 6, 7, 79, 80] [] [(4, .bool false), (5, .pointer (some ⟨b6, 0, none⟩)), (6, .pointer (some ⟨b9, 0, none⟩)), (7, .string r10), (79, .bool true), (80, .string r13)] (by kernel_rfl) ?_
            obtain ⟨t32, h33, hM⟩ := bind_some hM
            refine QL.val (fun _ => run_sliceS_lo (s := r13) (kl := .i64) (l := 16) (by kernel_rfl) (by kernel_rfl) (by kernel_rfl) h33) (by kernel_rfl) (by kernel_rfl) rfl ?_
            refine QL.run 1 [] [4, 5, 6, 79, 81, 82] [] [(4, .bool false), (5, .pointer (some ⟨b6, 0, none⟩)), (6, .pointer (some ⟨b9, 0, none⟩)), (79, .bool true), (81, .string t32), (82, .string r10)] (by kernel_rfl) ?_
            obtain ⟨t34, h35, hM⟩ := bind_some hM
            refine QL.val (fun _ => run_sliceS_lo (s := r10) (kl := .i64) (l := 12) (by kernel_rfl) (by kernel_rfl) (by kernel_rfl) h35) (by kernel_rfl) (by kernel_rfl) rfl ?_
            refine QL.run 2 [] [4, 5, 6, 85] [] [(4, .bool false), (5, .pointer (some ⟨b6, 0, none⟩)), (6, .pointer (some ⟨b9, 0, none⟩)), (85, .bool (t32.toList == t34.toList))] (by kernel_rfl) ?_
            exact QL.sub [4, 5, 6, 85] (by kernel_rfl) (K4 (t32.toList == t34.toList) hM)
          · replace hM := cond_f hM c31
            refine QL.run 6 [] [4, 5, 6, 85] [] [(4, .bool false), (5, .pointer (some ⟨b6, 0, none⟩)), (6, .pointer (some ⟨b9, 0, none⟩)), (85, .bool false)] (by kernel_rfl) ?_
            exact QL.sub [4, 5, 6, 85] (by kernel_rfl) (K4 false hM)
      ·
        refine QL.split (fun b' => [(4, .bool false), (5, .pointer (some ⟨b6, 0, none⟩)), (6, .pointer (some ⟨b9, 0, none⟩)), (7, .string r10), (9, .string r13), (74, .bool b')]) x26 (fun c27 => ?_) (fun c27 => ?_)
        · replace hM := cond_t hM c27
          refine QL.run 1 [] [4, 5, 6, 7, 9, 74, 75] [] [(4, .bool false), (5, .pointer (some ⟨b6, 0, none⟩)), (6, .pointer (some ⟨b9, 0, none⟩)), (7, .string r10), (9, .string r13), (74, .bool true), (75, .string r13)] (by kernel_rfl) ?_
          obtain ⟨t28, h29, hM⟩ := bind_some hM
          refine QL.val (fun _ => run_sliceS (s := r13) (kl := .i64) (kh := .i64) (l := 12) (h := 14) (by kernel_rfl) (by kernel_rfl) (by kernel_rfl) (by kernel_rfl) h29) (by kernel_rfl) (by kernel_rfl) rfl ?_
          refine QL.run 2 [] [4, 5, 6, 7, 9, 78] [] [(4, .bool false), (5, .pointer (some ⟨b6, 0, none⟩)), (6, .pointer (some ⟨b9, 0, none⟩)), (7, .string r10), (9, .string r13), (78, .bool (t28.toList == (⟨#[129, 0]⟩ : ByteArray).toList))] (by kernel_rfl) ?_
          exact QL.sub [4, 5, 6, 7, 9, 78] (by kernel_rfl) (K5 (t28.toList == (⟨#[129, 0]⟩ : ByteArray).toList) hM)
        · replace hM := cond_f hM c27
          refine QL.run 4 [] [4, 5, 6, 7, 9, 78] [] [(4, .bool false), (5, .pointer (some ⟨b6, 0, none⟩)), (6, .pointer (some ⟨b9, 0, none⟩)), (7, .string r10), (9, .string r13), (78, .bool false)] (by kernel_rfl) ?_
          exact QL.sub [4, 5, 6, 7, 9, 78] (by kernel_rfl) (K5 false hM)
    ·
      refine QL.split (fun b' => [(4, .bool false), (5, .pointer (some ⟨b6, 0, none⟩)), (6, .pointer (some ⟨b9, 0, none⟩)), (7, .string r10), (9, .string r13), (67, .bool b')]) (((r13.size : Int) == (i64 ((r10.size : Int) + 4))) && (decide ((r10.size : Int) ≥ 14))) (fun c21 => ?_) (fun c21 => ?_)
      · replace hM := cond_t hM c21
        refine QL.run 1 [] [4, 5, 6, 7, 9, 67, 68] [] [(4, .bool false), (5, .pointer (some ⟨b6, 0, none⟩)), (6, .pointer (some ⟨b9, 0, none⟩)), (7, .string r10), (9, .string r13), (67, .bool true), (68, .string r13)] (by kernel_rfl) ?_
        obtain ⟨t22, h23, hM⟩ := bind_some hM
        refine QL.val (fun _ => run_sliceS_hi (s := r13) (kh := .i64) (h := 12) (by kernel_rfl) (by kernel_rfl) (by kernel_rfl) h23) (by kernel_rfl) (by kernel_rfl) rfl ?_
        refine QL.run 1 [] [4, 5, 6, 7, 9, 67, 69, 70] [] [(4, .bool false), (5, .pointer (some ⟨b6, 0, none⟩)), (6, .pointer (some ⟨b9, 0, none⟩)), (7, .string r10), (9, .string r13), (67, .bool true), (69, .string t22), (70, .string r10)] (by kernel_rfl) ?_
        obtain ⟨t24, h25, hM⟩ := bind_some hM
        refine QL.val (fun _ => run_sliceS_hi (s := r10) (kh := .i64) (h := 12) (by kernel_rfl) (by kernel_rfl) (by kernel_rfl) h25) (by kernel_rfl) (by kernel_rfl) rfl ?_
        refine QL.run 2 [] [4, 5, 6, 7, 9, 73] [] [(4, .bool false), (5, .pointer (some ⟨b6, 0, none⟩)), (6, .pointer (some ⟨b9, 0, none⟩)), (7, .string r10), (9, .string r13), (73, .bool (t22.toList == t24.toList))] (by kernel_rfl) ?_
        exact QL.sub [4, 5, 6, 7, 9, 73] (by kernel_rfl) (K6 (t22.toList == t24.toList) hM)
      · replace hM := cond_f hM c21
        refine QL.run 6 [] [4, 5, 6, 7, 9, 73] [] [(4, .bool false), (5, .pointer (some ⟨b6, 0, none⟩)), (6, .pointer (some ⟨b9, 0, none⟩)), (7, .string r10), (9, .string r13), (73, .bool false)] (by kernel_rfl) ?_
        exact QL.sub [4, 5, 6, 7, 9, 73] (by kernel_rfl) (K6 false hM)

end Go.Proofs.YtefbjefmclhhjaaDoor

namespace Go.Proofs.YtefbjefmclhhjaaDoor
open Go Eng
set_option linter.unusedVariables false
set_option linter.unusedSimpArgs false

/-! ### gangway/gangwayref01.Num: function 26 -/
def gangwayref01_Num.l1 (a0 : ByteArray) : Nat → Int → Int → Option (Int)
  | 0, _, _ => none
  | n + 1, x1, x2 =>
    bif decide (x2 < (a0.size : Int)) then
      (idxS a0 x2).bind fun t4 =>
      gangwayref01_Num.l1 a0 n (u64 ((u64 (x1 * 256)) + (u64 t4))) (i64 (x2 + 1))
    else
      some x1

def gangwayref01_Num.f (k : Nat) (a0 : ByteArray) : Option (Int) :=
  gangwayref01_Num.l1 a0 k 0 0

set_option maxRecDepth 100000 in
theorem gangwayref01_Num_calls (k : Nat) (a0 : ByteArray) (r : Int) (h : gangwayref01_Num.f k a0 = some r) : Pure Tryd.prog Glob 26 #[.string a0] (.int .u64 r) := by
  intro w Z hS
  refine calls_of (args := [.string a0]) (L := [(0, .string a0)]) (N := 19) (S := Sat w Z [] [] Glob) Tryd.func26 rfl rfl (Nat.le_of_ble_eq_true rfl) rfl hS ?_
  have hM := h
  clear h hS
  unfold gangwayref01_Num.f at hM
  refine WP.seq ?_
  refine WP.run [] [0, 2] (fun _ => [(0, .string a0), (2, .int .u64 0)]) (fun _ => []) (fun _ => []) (fun _ => by kernel_rfl) (fun _ => ?_)
  refine WP.seq ?_
  refine WP.run [] [0, 2, 3] (fun _ => [(0, .string a0), (2, .int .u64 0), (3, .int .u64 0)]) (fun _ => []) (fun _ => []) (fun _ => by kernel_rfl) (fun _ => ?_)
  refine WP.seq ?_
  refine WP.seq ?_
  refine WP.run [] [0, 2, 3, 4] (fun _ => [(0, .string a0), (2, .int .u64 0), (3, .int .u64 0), (4, .int .i64 0)]) (fun _ => []) (fun _ => []) (fun _ => by kernel_rfl) (fun _ => ?_)
  refine WP.block ?_
  refine WP.sub [0, 2, 3, 4] (L' := [(0, .string a0), (2, .int .u64 0), (3, .int .u64 0), (4, .int .i64 0)]) (by kernel_rfl) ?_
  refine WP.loop (σ := Int × Int) (fun n st => gangwayref01_Num.l1 a0 n st.1 st.2) r (fun st => [(0, .string a0), (2, .int .u64 0), (3, .int .u64 st.1), (4, .int .i64 st.2)]) (fun st => Sat w Z [] [] Glob) (st := (0, 0)) (fun n st hM => ?_) hM
  rcases n with _ | n
  · exact nomatch (show (none : Option _) = some r from hM)
  obtain ⟨x1, x2⟩ := st
  replace hM : gangwayref01_Num.l1 a0 (n + 1) x1 x2 = some r := hM
  rw [gangwayref01_Num.l1] at hM
  show WP _ _ _ _ _ [(0, .string a0), (2, .int .u64 0), (3, .int .u64 x1), (4, .int .i64 x2)] (Sat w Z [] [] Glob)
  refine WP.seq ?_
  refine WP.seq ?_
  refine WP.run [] [0, 2, 3, 4, 5, 6, 7, 8] (fun _ => [(0, .string a0), (2, .int .u64 0), (3, .int .u64 x1), (4, .int .i64 x2), (5, .int .i64 x2), (6, .string a0), (7, .int .i64 (a0.size : Int)), (8, .bool (decide (x2 < (a0.size : Int))))]) (fun _ => []) (fun _ => []) (fun _ => by kernel_rfl) (fun _ => ?_)
  refine WP.cond (decide (x2 < (a0.size : Int))) rfl rfl (fun c3 => ?_) (fun c3 => ?_)
  · replace hM := cond_t hM c3
    refine WP.skip ?_
    refine WP.seq ?_
    refine WP.block ?_
    refine WP.region ?_
    refine WL.run 4 [] [0, 2, 3, 4, 5, 6, 7, 8, 11, 12, 13, 14] (fun _ => [(0, .string a0), (2, .int .u64 0), (3, .int .u64 x1), (4, .int .i64 x2), (5, .int .i64 x2), (6, .string a0), (7, .int .i64 (a0.size : Int)), (8, .bool (decide (x2 < (a0.size : Int)))), (11, .int .u64 x1), (12, .int .u64 (u64 (x1 * 256))), (13, .string a0), (14, .int .i64 x2)]) (fun _ => []) (fun _ => []) (fun _ => by kernel_rfl) (fun _ => ?_)
    obtain ⟨t4, h5, hM⟩ := bind_some hM
    refine WL.val (fun _ => run_idxS (s := a0) (k := .i64) (i := x2) (by kernel_rfl) (by kernel_rfl) (by kernel_rfl) h5) (by kernel_rfl) (by kernel_rfl) rfl ?_
    refine WL.run 3 [] [0, 2, 3, 4, 5, 6, 7, 8, 11, 12, 13, 14, 15, 16, 17] (fun _ => [(0, .string a0), (2, .int .u64 0), (3, .int .u64 (u64 ((u64 (x1 * 256)) + (u64 t4)))), (4, .int .i64 x2), (5, .int .i64 x2), (6, .string a0), (7, .int .i64 (a0.size : Int)), (8, .bool (decide (x2 < (a0.size : Int)))), (11, .int .u64 x1), (12, .int .u64 (u64 (x1 * 256))), (13, .string a0), (14, .int .i64 x2), (15, .int .u8 t4), (16, .int .u64 (u64 t4)), (17, .int .u64 (u64 ((u64 (x1 * 256)) + (u64 t4))))]) (fun _ => []) (fun _ => []) (fun _ => by kernel_rfl) (fun _ => ?_)
    refine WP.done ?_
    refine WP.leave ?_
    refine WP.run [] [0, 2, 3, 4, 5, 6, 7, 8, 9, 10, 11, 12, 13, 14, 15, 16, 17] (fun _ => [(0, .string a0), (2, .int .u64 0), (3, .int .u64 (u64 ((u64 (x1 * 256)) + (u64 t4)))), (4, .int .i64 (i64 (x2 + 1))), (5, .int .i64 x2), (6, .string a0), (7, .int .i64 (a0.size : Int)), (8, .bool (decide (x2 < (a0.size : Int)))), (9, .int .i64 x2), (10, .int .i64 (i64 (x2 + 1))), (11, .int .u64 x1), (12, .int .u64 (u64 (x1 * 256))), (13, .string a0), (14, .int .i64 x2), (15, .int .u8 t4), (16, .int .u64 (u64 t4)), (17, .int .u64 (u64 ((u64 (x1 * 256)) + (u64 t4))))]) (fun _ => []) (fun _ => []) (fun _ => by kernel_rfl) (fun _ => ?_)
    exact WP.again' [0, 2, 3, 4] (u64 ((u64 (x1 * 256)) + (u64 t4)), i64 (x2 + 1)) hM (by kernel_rfl) (fun _ h => h.pick [] (by kernel_rfl))
  · replace hM := cond_f hM c3
    refine WP.exit rfl ?_
    refine WP.seq ?_
    refine WP.run [] [2] (fun _ => [(2, .int .u64 x1)]) (fun _ => []) (fun _ => []) (fun _ => by kernel_rfl) (fun _ => ?_)
    obtain rfl := Option.some.inj hM
    exact WP.ret [] [] (.int .u64 x1) (by kernel_rfl) (fun w' hw => ⟨rfl, hw.pick [] rfl⟩)

end Go.Proofs.YtefbjefmclhhjaaDoor

namespace Go.Proofs.YtefbjefmclhhjaaDoor
open Go Eng
set_option linter.unusedVariables false
set_option linter.unusedSimpArgs false

/-! ### gangway/gangwayref04.word: function 27 -/
def gangwayref04_word.f (a0 : ByteArray) : Option (Int) :=
  (idxS a0 0).bind fun t1 =>
  (idxS a0 1).bind fun t3 =>
  some (i64 ((i64 ((i64 t1) * 256)) + (i64 t3)))

set_option maxRecDepth 100000 in
theorem gangwayref04_word_calls (a0 : ByteArray) (r : Int) (h : gangwayref04_word.f a0 = some r) : Pure Tryd.prog Glob 27 #[.string a0] (.int .i64 r) := by
  intro w Z hS
  refine calls_of (args := [.string a0]) (L := [(0, .string a0)]) (N := 11) (S := Sat w Z [] [] Glob) Tryd.func27 rfl rfl (Nat.le_of_ble_eq_true rfl) rfl hS ?_
  have hM := h
  clear h hS
  unfold gangwayref04_word.f at hM
  refine WP.seq ?_
  refine WP.run [] [0, 2] (fun _ => [(0, .string a0), (2, .int .i64 0)]) (fun _ => []) (fun _ => []) (fun _ => by kernel_rfl) (fun _ => ?_)
  refine WP.seq ?_
  refine WP.quiet (by kernel_rfl) (by kernel_rfl) ?_
  refine QL.run 1 [] [0, 2, 3] [] [(0, .string a0), (2, .int .i64 0), (3, .string a0)] (by kernel_rfl) ?_
  obtain ⟨t1, h2, hM⟩ := bind_some hM
  refine QL.val (fun _ => run_idxS (s := a0) (k := .i64) (i := 0) (by kernel_rfl) (by kernel_rfl) (by kernel_rfl) h2) (by kernel_rfl) (by kernel_rfl) rfl ?_
  refine QL.run 3 [] [2, 6, 7] [] [(2, .int .i64 0), (6, .int .i64 (i64 ((i64 t1) * 256))), (7, .string a0)] (by kernel_rfl) ?_
  obtain ⟨t3, h4, hM⟩ := bind_some hM
  refine QL.val (fun _ => run_idxS (s := a0) (k := .i64) (i := 1) (by kernel_rfl) (by kernel_rfl) (by kernel_rfl) h4) (by kernel_rfl) (by kernel_rfl) rfl ?_
  refine QL.run 3 [] [2] [] [(2, .int .i64 (i64 ((i64 ((i64 t1) * 256)) + (i64 t3))))] (by kernel_rfl) ?_
  refine QL.done ?_
  obtain rfl := Option.some.inj hM
  exact WP.ret [] [] (.int .i64 (i64 ((i64 ((i64 t1) * 256)) + (i64 t3)))) (by kernel_rfl) (fun w' hw => ⟨rfl, hw.pick [] rfl⟩)

end Go.Proofs.YtefbjefmclhhjaaDoor

namespace Go.Proofs.YtefbjefmclhhjaaDoor
open Go Eng
set_option linter.unusedVariables false
set_option linter.unusedSimpArgs false

/-! ### gangway/gangwayref04.Parse: function 10 -/
def gangwayref04_Parse.k1 (x32 : Int) (r7 : Int) (r11 : Int) (x34 : Bool) (x35 : Int) (x36 : Bool) (x37 : Int) (x33 : ByteArray) (x39 : Bool) : Option (api_Frame × Int) :=
  bif x39 then
    some ((api_Frame.mk 0 0 (api_Tag.mk false 0 false 0) 0 (⟨#[]⟩ : ByteArray)), 41)
  else
    bif decide (x32 > 1500) then
      some ((api_Frame.mk r7 r11 (api_Tag.mk x34 x35 x36 x37) x32 x33), 0)
    else
      bif decide (x32 > (x33.size : Int)) then
        some ((api_Frame.mk 0 0 (api_Tag.mk false 0 false 0) 0 (⟨#[]⟩ : ByteArray)), 40)
      else
        (sliceS x33 0 x32).bind fun t43 =>
        some ((api_Frame.mk r7 r11 (api_Tag.mk x34 x35 x36 x37) 0 t43), 0)

def gangwayref04_Parse.k2 (r7 : Int) (r11 : Int) (x32 : Int) (x33 : ByteArray) (x34 : Bool) (x35 : Int) (x36 : Bool) (x37 : Int) : Option (api_Frame × Int) :=
  bif (x32 == 33024) then
    gangwayref04_Parse.k1 x32 r7 r11 x34 x35 x36 x37 x33 true
  else
    gangwayref04_Parse.k1 x32 r7 r11 x34 x35 x36 x37 x33 ((decide (x32 > 1500)) && (decide (x32 < 1536)))

def gangwayref04_Parse.f (k : Nat) (a0 : ByteArray) : Option (api_Frame × Int) :=
  bif decide ((a0.size : Int) > 1600) then
    some ((api_Frame.mk 0 0 (api_Tag.mk false 0 false 0) 0 (⟨#[]⟩ : ByteArray)), 41)
  else
    bif decide ((a0.size : Int) < 14) then
      some ((api_Frame.mk 0 0 (api_Tag.mk false 0 false 0) 0 (⟨#[]⟩ : ByteArray)), 40)
    else
      (sliceS a0 0 6).bind fun t5 =>
      (gangwayref01_Num.f k t5).bind fun r7 =>
      (sliceS a0 6 12).bind fun t9 =>
      (gangwayref01_Num.f k t9).bind fun r11 =>
      (sliceS a0 12 14).bind fun t14 =>
      (gangwayref04_word.f t14).bind fun r16 =>
      (sliceS a0 14 (a0.size : Int)).bind fun t18 =>
      bif (r16 == 33024) then
        bif decide ((t18.size : Int) < 4) then
          some ((api_Frame.mk 0 0 (api_Tag.mk false 0 false 0) 0 (⟨#[]⟩ : ByteArray)), 40)
        else
          (sliceS t18 0 2).bind fun t22 =>
          (gangwayref04_word.f t22).bind fun r24 =>
          (sliceS t18 2 4).bind fun t26 =>
          (gangwayref04_word.f t26).bind fun r28 =>
          (sliceS t18 4 (t18.size : Int)).bind fun t30 =>
          gangwayref04_Parse.k2 r7 r11 r28 t30 true (i64 (Int.tdiv r24 8192)) ((Int.tmod (i64 (Int.tdiv r24 4096)) 2) == 1) (Int.tmod r24 4096)
      else
        gangwayref04_Parse.k2 r7 r11 r16 t18 false 0 false 0

set_option maxRecDepth 100000 in
theorem gangwayref04_Parse_calls (k : Nat) (a0 : ByteArray) (r : api_Frame × Int) (h : gangwayref04_Parse.f k a0 = some r) : Pure Tryd.prog Glob 10 #[.string a0] (.tuple #[.agg #[.int .u64 r.1.Dst, .int .u64 r.1.Src, .bool r.1.Tag.Has, .int .i64 r.1.Tag.Pri, .bool r.1.Tag.Dei, .int .i64 r.1.Tag.Vid, .int .i64 r.1.Type_, .string r.1.Body], .int .i64 r.2]) := by
  intro w Z hS
  refine calls_of (args := [.string a0]) (L := [(0, .string a0)]) (N := 80) (S := Sat w Z [] [] Glob) Tryd.func10 rfl rfl (Nat.le_of_ble_eq_true rfl) rfl hS ?_
  have hM := h
  clear h hS
  unfold gangwayref04_Parse.f at hM
  refine WP.seq ?_
  refine WP.run [] [0, 2, 3] (fun b1 => [(0, .string a0), (2, .pointer (some ⟨b1, 0, none⟩)), (3, .int .i64 0)]) (fun b1 => [(b1, .cells #[.int .u64 0, .int .u64 0, .bool false, .int .i64 0, .bool false, .int .i64 0, .int .i64 0, .string (⟨#[]⟩ : ByteArray)] 26 (0, 0))]) (fun b1 => []) (fun b1 => by kernel_rfl) (fun b1 => ?_)
  refine WP.seq ?_
  refine WP.seq ?_
  refine WP.run [] [0, 2, 3, 10] (fun _ => [(0, .string a0), (2, .pointer (some ⟨b1, 0, none⟩)), (3, .int .i64 0), (10, .bool (decide ((a0.size : Int) > 1600)))]) (fun _ => [(b1, .cells #[.int .u64 0, .int .u64 0, .bool false, .int .i64 0, .bool false, .int .i64 0, .int .i64 0, .string (⟨#[]⟩ : ByteArray)] 26 (0, 0))]) (fun _ => []) (fun _ => by kernel_rfl) (fun _ => ?_)
  refine WP.cond (decide ((a0.size : Int) > 1600)) rfl rfl (fun c2 => ?_) (fun c2 => ?_)
  · replace hM := cond_t hM c2
    refine WP.seq ?_
    refine WP.run [0, 0, 0, 0, 0, 0, 0, 0] [0, 2, 3] (fun _ => [(0, .string a0), (2, .pointer (some ⟨b1, 0, none⟩)), (3, .int .i64 41)]) (fun _ => [(b1, .cells #[.int .u64 0, .int .u64 0, .bool false, .int .i64 0, .bool false, .int .i64 0, .int .i64 0, .string (⟨#[]⟩ : ByteArray)] 26 (0, 0))]) (fun _ => [b1, b1, b1, b1, b1, b1, b1, b1]) (fun _ => by kernel_rfl) (fun _ => ?_)
    obtain rfl := Option.some.inj hM
    exact WP.ret [0, 0, 0, 0, 0, 0, 0, 0] [b1, b1, b1, b1, b1, b1, b1, b1] (.tuple #[.agg #[.int .u64 0, .int .u64 0, .bool false, .int .i64 0, .bool false, .int .i64 0, .int .i64 0, .string (⟨#[]⟩ : ByteArray)], .int .i64 41]) (by kernel_rfl) (fun w' hw => ⟨rfl, hw.pick [] rfl⟩)
  · replace hM := cond_f hM c2
    refine WP.skip ?_
    refine WP.seq ?_
    refine WP.seq ?_
    refine WP.run [] [0, 2, 3, 14] (fun _ => [(0, .string a0), (2, .pointer (some ⟨b1, 0, none⟩)), (3, .int .i64 0), (14, .bool (decide ((a0.size : Int) < 14)))]) (fun _ => [(b1, .cells #[.int .u64 0, .int .u64 0, .bool false, .int .i64 0, .bool false, .int .i64 0, .int .i64 0, .string (⟨#[]⟩ : ByteArray)] 26 (0, 0))]) (fun _ => []) (fun _ => by kernel_rfl) (fun _ => ?_)
    refine WP.cond (decide ((a0.size : Int) < 14)) rfl rfl (fun c3 => ?_) (fun c3 => ?_)
    · replace hM := cond_t hM c3
      refine WP.seq ?_
      refine WP.run [0, 0, 0, 0, 0, 0, 0, 0] [0, 2, 3] (fun _ => [(0, .string a0), (2, .pointer (some ⟨b1, 0, none⟩)), (3, .int .i64 40)]) (fun _ => [(b1, .cells #[.int .u64 0, .int .u64 0, .bool false, .int .i64 0, .bool false, .int .i64 0, .int .i64 0, .string (⟨#[]⟩ : ByteArray)] 26 (0, 0))]) (fun _ => [b1, b1, b1, b1, b1, b1, b1, b1]) (fun _ => by kernel_rfl) (fun _ => ?_)
      obtain rfl := Option.some.inj hM
      exact WP.ret [0, 0, 0, 0, 0, 0, 0, 0] [b1, b1, b1, b1, b1, b1, b1, b1] (.tuple #[.agg #[.int .u64 0, .int .u64 0, .bool false, .int .i64 0, .bool false, .int .i64 0, .int .i64 0, .string (⟨#[]⟩ : ByteArray)], .int .i64 40]) (by kernel_rfl) (fun w' hw => ⟨rfl, hw.pick [] rfl⟩)
    · replace hM := cond_f hM c3
      refine WP.skip ?_
      refine WP.seq ?_
      obtain ⟨t5, h6, hM⟩ := bind_some hM
      obtain ⟨r7, h8, hM⟩ := bind_some hM
      obtain ⟨t9, h10, hM⟩ := bind_some hM
      obtain ⟨r11, h12, hM⟩ := bind_some hM
      refine WP.sub [0, 2, 3] (L' := [(0, .string a0), (2, .pointer (some ⟨b1, 0, none⟩)), (3, .int .i64 0)]) (by kernel_rfl) ?_
      refine WP.mixed 8 [.val (.string a0), .val (.string t5), .val (.int .u64 r7), .val (.string a0), .val (.string t9), .val (.int .u64 r11), .val (.agg #[.int .u64 r7, .int .u64 r11, .bool false, .int .i64 0, .bool false, .int .i64 0, .int .i64 0, .string (⟨#[]⟩ : ByteArray)]), .alloc (.cells #[.int .u64 0, .int .u64 0, .bool false, .int .i64 0, .bool false, .int .i64 0, .int .i64 0, .string (⟨#[]⟩ : ByteArray)] 26 (0, 0)) (fun b => .pointer (some ⟨b, 0, none⟩))] (by kernel_rfl) (by kernel_rfl) (by kernel_rfl) (Heads.val (OpV.run [] [] (by kernel_rfl) (fun _ => by kernel_rfl)) (Heads.val (OpV.val (fun _ => run_sliceS_hi (s := a0) (kh := .i64) (h := 6) (by kernel_rfl) (by kernel_rfl) (by kernel_rfl) h6) (by kernel_rfl)) (Heads.val (OpV.callP [] [] (gangwayref01_Num_calls k t5 _ h8) (fun _ h => h) (fun _ => by kernel_rfl)) (Heads.val (OpV.run [] [] (by kernel_rfl) (fun _ => by kernel_rfl)) (Heads.val (OpV.val (fun _ => run_sliceS (s := a0) (kl := .i64) (kh := .i64) (l := 6) (h := 12) (by kernel_rfl) (by kernel_rfl) (by kernel_rfl) (by kernel_rfl) h10) (by kernel_rfl)) (Heads.val (OpV.callP [] [] (gangwayref01_Num_calls k t9 _ h12) (fun _ h => h) (fun _ => by kernel_rfl)) (Heads.val (OpV.run [] [] (by kernel_rfl) (fun _ => by kernel_rfl)) (Heads.alloc (by kernel_rfl) (fun _ => by kernel_rfl) Heads.nil)))))))) (fun s4 => [(16, .string a0), (17, .string t5), (18, .int .u64 r7), (19, .string a0), (20, .string t9), (21, .int .u64 r11), (22, .agg #[.int .u64 r7, .int .u64 r11, .bool false, .int .i64 0, .bool false, .int .i64 0, .int .i64 0, .string (⟨#[]⟩ : ByteArray)]), (4, .pointer (some ⟨(s4 7), 0, none⟩)), (0, .string a0), (2, .pointer (some ⟨b1, 0, none⟩)), (3, .int .i64 0)]) (fun s4 => [(b1, .cells #[.int .u64 0, .int .u64 0, .bool false, .int .i64 0, .bool false, .int .i64 0, .int .i64 0, .string (⟨#[]⟩ : ByteArray)] 26 (0, 0)), ((s4 7), .cells #[.int .u64 0, .int .u64 0, .bool false, .int .i64 0, .bool false, .int .i64 0, .int .i64 0, .string (⟨#[]⟩ : ByteArray)] 26 (0, 0))]) (fun _ => by kernel_rfl) (fun _ => by kernel_rfl) (fun s4 => ?_)
      generalize s4 7 = b13
      refine WL.run 1 [1, 1, 1, 1, 1, 1, 1, 1] [0, 2, 3, 4] (fun _ => [(0, .string a0), (2, .pointer (some ⟨b1, 0, none⟩)), (3, .int .i64 0), (4, .pointer (some ⟨b13, 0, none⟩))]) (fun _ => [(b1, .cells #[.int .u64 0, .int .u64 0, .bool false, .int .i64 0, .bool false, .int .i64 0, .int .i64 0, .string (⟨#[]⟩ : ByteArray)] 26 (0, 0)), (b13, .cells #[.int .u64 r7, .int .u64 r11, .bool false, .int .i64 0, .bool false, .int .i64 0, .int .i64 0, .string (⟨#[]⟩ : ByteArray)] 26 (0, 0))]) (fun _ => [b13, b13, b13, b13, b13, b13, b13, b13]) (fun _ => by kernel_rfl) (fun _ => ?_)
      refine WP.done ?_
      refine WP.seq ?_
      refine WP.quiet (by kernel_rfl) (by kernel_rfl) ?_
      refine QL.run 1 [] [0, 2, 3, 4, 23] [] [(0, .string a0), (2, .pointer (some ⟨b1, 0, none⟩)), (3, .int .i64 0), (4, .pointer (some ⟨b13, 0, none⟩)), (23, .string a0)] (by kernel_rfl) ?_
      obtain ⟨t14, h15, hM⟩ := bind_some hM
      refine QL.val (fun _ => run_sliceS (s := a0) (kl := .i64) (kh := .i64) (l := 12) (h := 14) (by kernel_rfl) (by kernel_rfl) (by kernel_rfl) (by kernel_rfl) h15) (by kernel_rfl) (by kernel_rfl) rfl ?_
      obtain ⟨r16, h17, hM⟩ := bind_some hM
      refine QL.callP [] [] (gangwayref04_word_calls t14 _ h17) (fun _ h => h) (by kernel_rfl) (by kernel_rfl) rfl ?_
      refine QL.run 1 [] [2, 3, 4, 25, 26] [] [(2, .pointer (some ⟨b1, 0, none⟩)), (3, .int .i64 0), (4, .pointer (some ⟨b13, 0, none⟩)), (25, .int .i64 r16), (26, .string a0)] (by kernel_rfl) ?_
      obtain ⟨t18, h19, hM⟩ := bind_some hM
      refine QL.val (fun _ => run_sliceS_lo (s := a0) (kl := .i64) (l := 14) (by kernel_rfl) (by kernel_rfl) (by kernel_rfl) h19) (by kernel_rfl) (by kernel_rfl) rfl ?_
      refine QL.run 2 [] [2, 3, 4, 5, 6] [] [(2, .pointer (some ⟨b1, 0, none⟩)), (3, .int .i64 0), (4, .pointer (some ⟨b13, 0, none⟩)), (5, .int .i64 r16), (6, .string t18)] (by kernel_rfl) ?_
      refine QL.done ?_
      refine WP.seqJoin (σ := Int × ByteArray × Bool × Int × Bool × Int) (fun st => gangwayref04_Parse.k2 r7 r11 st.1 st.2.1 st.2.2.1 st.2.2.2.1 st.2.2.2.2.1 st.2.2.2.2.2 = some r) (fun st => [(2, .pointer (some ⟨b1, 0, none⟩)), (3, .int .i64 0), (4, .pointer (some ⟨b13, 0, none⟩)), (5, .int .i64 st.1), (6, .string st.2.1)]) (fun st => Sat w Z [(b1, .cells #[.int .u64 0, .int .u64 0, .bool false, .int .i64 0, .bool false, .int .i64 0, .int .i64 0, .string (⟨#[]⟩ : ByteArray)] 26 (0, 0)), (b13, .cells #[.int .u64 r7, .int .u64 r11, .bool st.2.2.1, .int .i64 st.2.2.2.1, .bool st.2.2.2.2.1, .int .i64 st.2.2.2.2.2, .int .i64 0, .string (⟨#[]⟩ : ByteArray)] 26 (0, 0))] [] Glob) (fun st hM => ?_) (fun K2 => ?_)
      ·
        obtain ⟨x32, x33, x34, x35, x36, x37⟩ := st
        replace hM : gangwayref04_Parse.k2 r7 r11 x32 x33 x34 x35 x36 x37 = some r := hM
        unfold gangwayref04_Parse.k2 at hM
        show WP _ _ _ _ _ [(2, .pointer (some ⟨b1, 0, none⟩)), (3, .int .i64 0), (4, .pointer (some ⟨b13, 0, none⟩)), (5, .int .i64 x32), (6, .string x33)] (Sat w Z [(b1, .cells #[.int .u64 0, .int .u64 0, .bool false, .int .i64 0, .bool false, .int .i64 0, .int .i64 0, .string (⟨#[]⟩ : ByteArray)] 26 (0, 0)), (b13, .cells #[.int .u64 r7, .int .u64 r11, .bool x34, .int .i64 x35, .bool x36, .int .i64 x37, .int .i64 0, .string (⟨#[]⟩ : ByteArray)] 26 (0, 0))] [] Glob)
        refine WP.seq ?_
        refine WP.seq ?_
        refine WP.region ?_
        refine WL.run 3 [] [2, 3, 4, 5, 6, 54] (fun _ => [(2, .pointer (some ⟨b1, 0, none⟩)), (3, .int .i64 0), (4, .pointer (some ⟨b13, 0, none⟩)), (5, .int .i64 x32), (6, .string x33), (54, .bool (x32 == 33024))]) (fun _ => [(b1, .cells #[.int .u64 0, .int .u64 0, .bool false, .int .i64 0, .bool false, .int .i64 0, .int .i64 0, .string (⟨#[]⟩ : ByteArray)] 26 (0, 0)), (b13, .cells #[.int .u64 r7, .int .u64 r11, .bool x34, .int .i64 x35, .bool x36, .int .i64 x37, .int .i64 0, .string (⟨#[]⟩ : ByteArray)] 26 (0, 0))]) (fun _ => []) (fun _ => by kernel_rfl) (fun _ => ?_)
        refine WL.sub [2, 3, 4, 5, 6, 54] (L' := [(2, .pointer (some ⟨b1, 0, none⟩)), (3, .int .i64 0), (4, .pointer (some ⟨b13, 0, none⟩)), (5, .int .i64 x32), (6, .string x33), (54, .bool (x32 == 33024))]) (by kernel_rfl) ?_
        refine WL.join (σ := Bool) 7 (fun st => gangwayref04_Parse.k1 x32 r7 r11 x34 x35 x36 x37 x33 st = some r) (fun st => [(2, .pointer (some ⟨b1, 0, none⟩)), (3, .int .i64 0), (4, .pointer (some ⟨b13, 0, none⟩)), (5, .int .i64 x32), (6, .string x33), (61, .bool st)]) (fun st => Sat w Z [(b1, .cells #[.int .u64 0, .int .u64 0, .bool false, .int .i64 0, .bool false, .int .i64 0, .int .i64 0, .string (⟨#[]⟩ : ByteArray)] 26 (0, 0)), (b13, .cells #[.int .u64 r7, .int .u64 r11, .bool x34, .int .i64 x35, .bool x36, .int .i64 x37, .int .i64 0, .string (⟨#[]⟩ : ByteArray)] 26 (0, 0))] [] Glob) (fun st hM => ?_) (fun K1 => ?_)
        ·
          obtain ⟨x39, rfl⟩ : ∃ y, y = st := ⟨st, rfl⟩
          replace hM : gangwayref04_Parse.k1 x32 r7 r11 x34 x35 x36 x37 x33 x39 = some r := hM
          unfold gangwayref04_Parse.k1 at hM
          show WL _ _ _ _ _ [(2, .pointer (some ⟨b1, 0, none⟩)), (3, .int .i64 0), (4, .pointer (some ⟨b13, 0, none⟩)), (5, .int .i64 x32), (6, .string x33), (61, .bool x39)] (Sat w Z [(b1, .cells #[.int .u64 0, .int .u64 0, .bool false, .int .i64 0, .bool false, .int .i64 0, .int .i64 0, .string (⟨#[]⟩ : ByteArray)] 26 (0, 0)), (b13, .cells #[.int .u64 r7, .int .u64 r11, .bool x34, .int .i64 x35, .bool x36, .int .i64 x37, .int .i64 0, .string (⟨#[]⟩ : ByteArray)] 26 (0, 0))] [] Glob)
          refine WP.done ?_
          refine WP.cond x39 rfl rfl (fun c40 => ?_) (fun c40 => ?_)
          · replace hM := cond_t hM c40
            refine WP.seq ?_
            refine WP.run [0, 0, 0, 0, 0, 0, 0, 0] [2, 3, 4, 5, 6] (fun _ => [(2, .pointer (some ⟨b1, 0, none⟩)), (3, .int .i64 41), (4, .pointer (some ⟨b13, 0, none⟩)), (5, .int .i64 x32), (6, .string x33)]) (fun _ => [(b1, .cells #[.int .u64 0, .int .u64 0, .bool false, .int .i64 0, .bool false, .int .i64 0, .int .i64 0, .string (⟨#[]⟩ : ByteArray)] 26 (0, 0)), (b13, .cells #[.int .u64 r7, .int .u64 r11, .bool x34, .int .i64 x35, .bool x36, .int .i64 x37, .int .i64 0, .string (⟨#[]⟩ : ByteArray)] 26 (0, 0))]) (fun _ => [b1, b1, b1, b1, b1, b1, b1, b1]) (fun _ => by kernel_rfl) (fun _ => ?_)
            obtain rfl := Option.some.inj hM
            exact WP.ret [0, 0, 0, 0, 0, 0, 0, 0] [b1, b1, b1, b1, b1, b1, b1, b1] (.tuple #[.agg #[.int .u64 0, .int .u64 0, .bool false, .int .i64 0, .bool false, .int .i64 0, .int .i64 0, .string (⟨#[]⟩ : ByteArray)], .int .i64 41]) (by kernel_rfl) (fun w' hw => ⟨rfl, hw.pick [] rfl⟩)
          · replace hM := cond_f hM c40
            refine WP.skip ?_
            refine WP.seq ?_
            refine WP.seq ?_
            refine WP.run [] [2, 3, 4, 5, 6, 64] (fun _ => [(2, .pointer (some ⟨b1, 0, none⟩)), (3, .int .i64 0), (4, .pointer (some ⟨b13, 0, none⟩)), (5, .int .i64 x32), (6, .string x33), (64, .bool (decide (x32 > 1500)))]) (fun _ => [(b1, .cells #[.int .u64 0, .int .u64 0, .bool false, .int .i64 0, .bool false, .int .i64 0, .int .i64 0, .string (⟨#[]⟩ : ByteArray)] 26 (0, 0)), (b13, .cells #[.int .u64 r7, .int .u64 r11, .bool x34, .int .i64 x35, .bool x36, .int .i64 x37, .int .i64 0, .string (⟨#[]⟩ : ByteArray)] 26 (0, 0))]) (fun _ => []) (fun _ => by kernel_rfl) (fun _ => ?_)
            refine WP.cond (decide (x32 > 1500)) rfl rfl (fun c41 => ?_) (fun c41 => ?_)
            · replace hM := cond_t hM c41
              refine WP.seq ?_
              refine WP.run [1] [2, 3, 4, 5, 6] (fun _ => [(2, .pointer (some ⟨b1, 0, none⟩)), (3, .int .i64 0), (4, .pointer (some ⟨b13, 0, none⟩)), (5, .int .i64 x32), (6, .string x33)]) (fun _ => [(b1, .cells #[.int .u64 0, .int .u64 0, .bool false, .int .i64 0, .bool false, .int .i64 0, .int .i64 0, .string (⟨#[]⟩ : ByteArray)] 26 (0, 0)), (b13, .cells #[.int .u64 r7, .int .u64 r11, .bool x34, .int .i64 x35, .bool x36, .int .i64 x37, .int .i64 x32, .string (⟨#[]⟩ : ByteArray)] 26 (0, 0))]) (fun _ => [b13]) (fun _ => by kernel_rfl) (fun _ => ?_)
              refine WP.seq ?_
              refine WP.run [1] [2, 3, 4, 5, 6] (fun _ => [(2, .pointer (some ⟨b1, 0, none⟩)), (3, .int .i64 0), (4, .pointer (some ⟨b13, 0, none⟩)), (5, .int .i64 x32), (6, .string x33)]) (fun _ => [(b1, .cells #[.int .u64 0, .int .u64 0, .bool false, .int .i64 0, .bool false, .int .i64 0, .int .i64 0, .string (⟨#[]⟩ : ByteArray)] 26 (0, 0)), (b13, .cells #[.int .u64 r7, .int .u64 r11, .bool x34, .int .i64 x35, .bool x36, .int .i64 x37, .int .i64 x32, .string x33] 26 (0, 0))]) (fun _ => [b13]) (fun _ => by kernel_rfl) (fun _ => ?_)
              refine WP.seq ?_
              refine WP.run [1, 1, 1, 1, 1, 1, 1, 1, 0, 0, 0, 0, 0, 0, 0, 0] [2, 3, 4, 5, 6] (fun _ => [(2, .pointer (some ⟨b1, 0, none⟩)), (3, .int .i64 0), (4, .pointer (some ⟨b13, 0, none⟩)), (5, .int .i64 x32), (6, .string x33)]) (fun _ => [(b1, .cells #[.int .u64 r7, .int .u64 r11, .bool x34, .int .i64 x35, .bool x36, .int .i64 x37, .int .i64 x32, .string x33] 26 (0, 0)), (b13, .cells #[.int .u64 r7, .int .u64 r11, .bool x34, .int .i64 x35, .bool x36, .int .i64 x37, .int .i64 x32, .string x33] 26 (0, 0))]) (fun _ => [b1, b1, b1, b1, b1, b1, b1, b1, b13, b13, b13, b13, b13, b13, b13, b13]) (fun _ => by kernel_rfl) (fun _ => ?_)
              obtain rfl := Option.some.inj hM
              exact WP.ret [0, 0, 0, 0, 0, 0, 0, 0] [b1, b1, b1, b1, b1, b1, b1, b1] (.tuple #[.agg #[.int .u64 r7, .int .u64 r11, .bool x34, .int .i64 x35, .bool x36, .int .i64 x37, .int .i64 x32, .string x33], .int .i64 0]) (by kernel_rfl) (fun w' hw => ⟨rfl, hw.pick [] rfl⟩)
            · replace hM := cond_f hM c41
              refine WP.skip ?_
              refine WP.seq ?_
              refine WP.seq ?_
              refine WP.run [] [2, 3, 4, 5, 6, 73] (fun _ => [(2, .pointer (some ⟨b1, 0, none⟩)), (3, .int .i64 0), (4, .pointer (some ⟨b13, 0, none⟩)), (5, .int .i64 x32), (6, .string x33), (73, .bool (decide (x32 > (x33.size : Int))))]) (fun _ => [(b1, .cells #[.int .u64 0, .int .u64 0, .bool false, .int .i64 0, .bool false, .int .i64 0, .int .i64 0, .string (⟨#[]⟩ : ByteArray)] 26 (0, 0)), (b13, .cells #[.int .u64 r7, .int .u64 r11, .bool x34, .int .i64 x35, .bool x36, .int .i64 x37, .int .i64 0, .string (⟨#[]⟩ : ByteArray)] 26 (0, 0))]) (fun _ => []) (fun _ => by kernel_rfl) (fun _ => ?_)
              refine WP.cond (decide (x32 > (x33.size : Int))) rfl rfl (fun c42 => ?_) (fun c42 => ?_)
              · replace hM := cond_t hM c42
                refine WP.seq ?_
                refine WP.run [0, 0, 0, 0, 0, 0, 0, 0] [2, 3, 4, 5, 6] (fun _ => [(2, .pointer (some ⟨b1, 0, none⟩)), (3, .int .i64 40), (4, .pointer (some ⟨b13, 0, none⟩)), (5, .int .i64 x32), (6, .string x33)]) (fun _ => [(b1, .cells #[.int .u64 0, .int .u64 0, .bool false, .int .i64 0, .bool false, .int .i64 0, .int .i64 0, .string (⟨#[]⟩ : ByteArray)] 26 (0, 0)), (b13, .cells #[.int .u64 r7, .int .u64 r11, .bool x34, .int .i64 x35, .bool x36, .int .i64 x37, .int .i64 0, .string (⟨#[]⟩ : ByteArray)] 26 (0, 0))]) (fun _ => [b1, b1, b1, b1, b1, b1, b1, b1]) (fun _ => by kernel_rfl) (fun _ => ?_)
                obtain rfl := Option.some.inj hM
                exact WP.ret [0, 0, 0, 0, 0, 0, 0, 0] [b1, b1, b1, b1, b1, b1, b1, b1] (.tuple #[.agg #[.int .u64 0, .int .u64 0, .bool false, .int .i64 0, .bool false, .int .i64 0, .int .i64 0, .string (⟨#[]⟩ : ByteArray)], .int .i64 40]) (by kernel_rfl) (fun w' hw => ⟨rfl, hw.pick [] rfl⟩)
              · replace hM := cond_f hM c42
                refine WP.skip ?_
                refine WP.seq ?_
                refine WP.region ?_
                refine WL.run 2 [] [2, 3, 4, 75, 76] (fun _ => [(2, .pointer (some ⟨b1, 0, none⟩)), (3, .int .i64 0), (4, .pointer (some ⟨b13, 0, none⟩)), (75, .string x33), (76, .int .i64 x32)]) (fun _ => [(b1, .cells #[.int .u64 0, .int .u64 0, .bool false, .int .i64 0, .bool false, .int .i64 0, .int .i64 0, .string (⟨#[]⟩ : ByteArray)] 26 (0, 0)), (b13, .cells #[.int .u64 r7, .int .u64 r11, .bool x34, .int .i64 x35, .bool x36, .int .i64 x37, .int .i64 0, .string (⟨#[]⟩ : ByteArray)] 26 (0, 0))]) (fun _ => []) (fun _ => by kernel_rfl) (fun _ => ?_)
                obtain ⟨t43, h44, hM⟩ := bind_some hM
                refine WL.val (fun _ => run_sliceS_hi (s := x33) (kh := .i64) (h := x32) (by kernel_rfl) (by kernel_rfl) (by kernel_rfl) h44) (by kernel_rfl) (by kernel_rfl) rfl ?_
                refine WL.run 2 [1] [2, 3, 4] (fun _ => [(2, .pointer (some ⟨b1, 0, none⟩)), (3, .int .i64 0), (4, .pointer (some ⟨b13, 0, none⟩))]) (fun _ => [(b1, .cells #[.int .u64 0, .int .u64 0, .bool false, .int .i64 0, .bool false, .int .i64 0, .int .i64 0, .string (⟨#[]⟩ : ByteArray)] 26 (0, 0)), (b13, .cells #[.int .u64 r7, .int .u64 r11, .bool x34, .int .i64 x35, .bool x36, .int .i64 x37, .int .i64 0, .string t43] 26 (0, 0))]) (fun _ => [b13]) (fun _ => by kernel_rfl) (fun _ => ?_)
                refine WP.done ?_
                refine WP.seq ?_
                refine WP.run [1, 1, 1, 1, 1, 1, 1, 1, 0, 0, 0, 0, 0, 0, 0, 0] [2, 3] (fun _ => [(2, .pointer (some ⟨b1, 0, none⟩)), (3, .int .i64 0)]) (fun _ => [(b1, .cells #[.int .u64 r7, .int .u64 r11, .bool x34, .int .i64 x35, .bool x36, .int .i64 x37, .int .i64 0, .string t43] 26 (0, 0)), (b13, .cells #[.int .u64 r7, .int .u64 r11, .bool x34, .int .i64 x35, .bool x36, .int .i64 x37, .int .i64 0, .string t43] 26 (0, 0))]) (fun _ => [b1, b1, b1, b1, b1, b1, b1, b1, b13, b13, b13, b13, b13, b13, b13, b13]) (fun _ => by kernel_rfl) (fun _ => ?_)
                refine WP.keep [true, false] (by kernel_rfl : _ = [(b1, .cells #[.int .u64 r7, .int .u64 r11, .bool x34, .int .i64 x35, .bool x36, .int .i64 x37, .int .i64 0, .string t43] 26 (0, 0))]) ?_
                obtain rfl := Option.some.inj hM
                exact WP.ret [0, 0, 0, 0, 0, 0, 0, 0] [b1, b1, b1, b1, b1, b1, b1, b1] (.tuple #[.agg #[.int .u64 r7, .int .u64 r11, .bool x34, .int .i64 x35, .bool x36, .int .i64 x37, .int .i64 0, .string t43], .int .i64 0]) (by kernel_rfl) (fun w' hw => ⟨rfl, hw.pick [] rfl⟩)
        ·
          refine WL.split (fun b' => [(2, .pointer (some ⟨b1, 0, none⟩)), (3, .int .i64 0), (4, .pointer (some ⟨b13, 0, none⟩)), (5, .int .i64 x32), (6, .string x33), (54, .bool b')]) (x32 == 33024) (fun c38 => ?_) (fun c38 => ?_)
          · replace hM := cond_t hM c38
            refine WL.run 7 [] [2, 3, 4, 5, 6, 61] (fun _ => [(2, .pointer (some ⟨b1, 0, none⟩)), (3, .int .i64 0), (4, .pointer (some ⟨b13, 0, none⟩)), (5, .int .i64 x32), (6, .string x33), (61, .bool true)]) (fun _ => [(b1, .cells #[.int .u64 0, .int .u64 0, .bool false, .int .i64 0, .bool false, .int .i64 0, .int .i64 0, .string (⟨#[]⟩ : ByteArray)] 26 (0, 0)), (b13, .cells #[.int .u64 r7, .int .u64 r11, .bool x34, .int .i64 x35, .bool x36, .int .i64 x37, .int .i64 0, .string (⟨#[]⟩ : ByteArray)] 26 (0, 0))]) (fun _ => []) (fun _ => by kernel_rfl) (fun _ => ?_)
            exact WL.sub [2, 3, 4, 5, 6, 61] (by kernel_rfl) (WL.pick [0, 1] (by kernel_rfl) (by kernel_rfl) (K1 true hM))
          · replace hM := cond_f hM c38
            refine WL.run 3 [] [2, 3, 4, 5, 6, 54, 57] (fun _ => [(2, .pointer (some ⟨b1, 0, none⟩)), (3, .int .i64 0), (4, .pointer (some ⟨b13, 0, none⟩)), (5, .int .i64 x32), (6, .string x33), (54, .bool false), (57, .bool (decide (x32 > 1500)))]) (fun _ => [(b1, .cells #[.int .u64 0, .int .u64 0, .bool false, .int .i64 0, .bool false, .int .i64 0, .int .i64 0, .string (⟨#[]⟩ : ByteArray)] 26 (0, 0)), (b13, .cells #[.int .u64 r7, .int .u64 r11, .bool x34, .int .i64 x35, .bool x36, .int .i64 x37, .int .i64 0, .string (⟨#[]⟩ : ByteArray)] 26 (0, 0))]) (fun _ => []) (fun _ => by kernel_rfl) (fun _ => ?_)
            refine WL.sub [2, 3, 4, 5, 6, 54, 57] (L' := [(2, .pointer (some ⟨b1, 0, none⟩)), (3, .int .i64 0), (4, .pointer (some ⟨b13, 0, none⟩)), (5, .int .i64 x32), (6, .string x33), (54, .bool false), (57, .bool (decide (x32 > 1500)))]) (by kernel_rfl) ?_
            refine WL.both (fun b' => [(2, .pointer (some ⟨b1, 0, none⟩)), (3, .int .i64 0), (4, .pointer (some ⟨b13, 0, none⟩)), (5, .int .i64 x32), (6, .string x33), (54, .bool false), (57, .bool b')]) (decide (x32 > 1500)) 3 [] [] [2, 3, 4, 5, 6, 54, 60] (fun b' => [(2, .pointer (some ⟨b1, 0, none⟩)), (3, .int .i64 0), (4, .pointer (some ⟨b13, 0, none⟩)), (5, .int .i64 x32), (6, .string x33), (54, .bool false), (60, .bool (b' && (decide (x32 < 1536))))]) [] [] (fun _ => by kernel_rfl) (fun _ => by kernel_rfl) ?_
            refine WL.run 1 [] [2, 3, 4, 5, 6, 61] (fun _ => [(2, .pointer (some ⟨b1, 0, none⟩)), (3, .int .i64 0), (4, .pointer (some ⟨b13, 0, none⟩)), (5, .int .i64 x32), (6, .string x33), (61, .bool ((decide (x32 > 1500)) && (decide (x32 < 1536))))]) (fun _ => [(b1, .cells #[.int .u64 0, .int .u64 0, .bool false, .int .i64 0, .bool false, .int .i64 0, .int .i64 0, .string (⟨#[]⟩ : ByteArray)] 26 (0, 0)), (b13, .cells #[.int .u64 r7, .int .u64 r11, .bool x34, .int .i64 x35, .bool x36, .int .i64 x37, .int .i64 0, .string (⟨#[]⟩ : ByteArray)] 26 (0, 0))]) (fun _ => []) (fun _ => by kernel_rfl) (fun _ => ?_)
            exact WL.sub [2, 3, 4, 5, 6, 61] (by kernel_rfl) (WL.pick [0, 1] (by kernel_rfl) (by kernel_rfl) (K1 ((decide (x32 > 1500)) && (decide (x32 < 1536))) hM))
      ·
        refine WP.seq ?_
        refine WP.run [] [2, 3, 4, 5, 6, 29] (fun _ => [(2, .pointer (some ⟨b1, 0, none⟩)), (3, .int .i64 0), (4, .pointer (some ⟨b13, 0, none⟩)), (5, .int .i64 r16), (6, .string t18), (29, .bool (r16 == 33024))]) (fun _ => [(b1, .cells #[.int .u64 0, .int .u64 0, .bool false, .int .i64 0, .bool false, .int .i64 0, .int .i64 0, .string (⟨#[]⟩ : ByteArray)] 26 (0, 0)), (b13, .cells #[.int .u64 r7, .int .u64 r11, .bool false, .int .i64 0, .bool false, .int .i64 0, .int .i64 0, .string (⟨#[]⟩ : ByteArray)] 26 (0, 0))]) (fun _ => []) (fun _ => by kernel_rfl) (fun _ => ?_)
        refine WP.cond (r16 == 33024) rfl rfl (fun c20 => ?_) (fun c20 => ?_)
        · replace hM := cond_t hM c20
          refine WP.seq ?_
          refine WP.seq ?_
          refine WP.run [] [2, 3, 4, 5, 6, 32] (fun _ => [(2, .pointer (some ⟨b1, 0, none⟩)), (3, .int .i64 0), (4, .pointer (some ⟨b13, 0, none⟩)), (5, .int .i64 r16), (6, .string t18), (32, .bool (decide ((t18.size : Int) < 4)))]) (fun _ => [(b1, .cells #[.int .u64 0, .int .u64 0, .bool false, .int .i64 0, .bool false, .int .i64 0, .int .i64 0, .string (⟨#[]⟩ : ByteArray)] 26 (0, 0)), (b13, .cells #[.int .u64 r7, .int .u64 r11, .bool false, .int .i64 0, .bool false, .int .i64 0, .int .i64 0, .string (⟨#[]⟩ : ByteArray)] 26 (0, 0))]) (fun _ => []) (fun _ => by kernel_rfl) (fun _ => ?_)
          refine WP.cond (decide ((t18.size : Int) < 4)) rfl rfl (fun c21 => ?_) (fun c21 => ?_)
          · replace hM := cond_t hM c21
            refine WP.seq ?_
            refine WP.run [0, 0, 0, 0, 0, 0, 0, 0] [2, 3, 4, 5, 6] (fun _ => [(2, .pointer (some ⟨b1, 0, none⟩)), (3, .int .i64 40), (4, .pointer (some ⟨b13, 0, none⟩)), (5, .int .i64 r16), (6, .string t18)]) (fun _ => [(b1, .cells #[.int .u64 0, .int .u64 0, .bool false, .int .i64 0, .bool false, .int .i64 0, .int .i64 0, .string (⟨#[]⟩ : ByteArray)] 26 (0, 0)), (b13, .cells #[.int .u64 r7, .int .u64 r11, .bool false, .int .i64 0, .bool false, .int .i64 0, .int .i64 0, .string (⟨#[]⟩ : ByteArray)] 26 (0, 0))]) (fun _ => [b1, b1, b1, b1, b1, b1, b1, b1]) (fun _ => by kernel_rfl) (fun _ => ?_)
            obtain rfl := Option.some.inj hM
            exact WP.ret [0, 0, 0, 0, 0, 0, 0, 0] [b1, b1, b1, b1, b1, b1, b1, b1] (.tuple #[.agg #[.int .u64 0, .int .u64 0, .bool false, .int .i64 0, .bool false, .int .i64 0, .int .i64 0, .string (⟨#[]⟩ : ByteArray)], .int .i64 40]) (by kernel_rfl) (fun w' hw => ⟨rfl, hw.pick [] rfl⟩)
          · replace hM := cond_f hM c21
            refine WP.skip ?_
            refine WP.seq ?_
            refine WP.region ?_
            refine WL.run 1 [] [2, 3, 4, 5, 6, 34] (fun _ => [(2, .pointer (some ⟨b1, 0, none⟩)), (3, .int .i64 0), (4, .pointer (some ⟨b13, 0, none⟩)), (5, .int .i64 r16), (6, .string t18), (34, .string t18)]) (fun _ => [(b1, .cells #[.int .u64 0, .int .u64 0, .bool false, .int .i64 0, .bool false, .int .i64 0, .int .i64 0, .string (⟨#[]⟩ : ByteArray)] 26 (0, 0)), (b13, .cells #[.int .u64 r7, .int .u64 r11, .bool false, .int .i64 0, .bool false, .int .i64 0, .int .i64 0, .string (⟨#[]⟩ : ByteArray)] 26 (0, 0))]) (fun _ => []) (fun _ => by kernel_rfl) (fun _ => ?_)
            obtain ⟨t22, h23, hM⟩ := bind_some hM
            refine WL.val (fun _ => run_sliceS_hi (s := t18) (kh := .i64) (h := 2) (by kernel_rfl) (by kernel_rfl) (by kernel_rfl) h23) (by kernel_rfl) (by kernel_rfl) rfl ?_
            obtain ⟨r24, h25, hM⟩ := bind_some hM
            refine WL.callP [] [] (gangwayref04_word_calls t22 _ h25) (fun _ h => h) (by kernel_rfl) (by kernel_rfl) rfl ?_
            refine WL.run 1 [] [2, 3, 4, 5, 6, 7] (fun _ => [(2, .pointer (some ⟨b1, 0, none⟩)), (3, .int .i64 0), (4, .pointer (some ⟨b13, 0, none⟩)), (5, .int .i64 r16), (6, .string t18), (7, .int .i64 r24)]) (fun _ => [(b1, .cells #[.int .u64 0, .int .u64 0, .bool false, .int .i64 0, .bool false, .int .i64 0, .int .i64 0, .string (⟨#[]⟩ : ByteArray)] 26 (0, 0)), (b13, .cells #[.int .u64 r7, .int .u64 r11, .bool false, .int .i64 0, .bool false, .int .i64 0, .int .i64 0, .string (⟨#[]⟩ : ByteArray)] 26 (0, 0))]) (fun _ => []) (fun _ => by kernel_rfl) (fun _ => ?_)
            refine WP.done ?_
            refine WP.seq ?_
            refine WP.run [1, 1, 1, 1] [2, 3, 4, 5, 6] (fun _ => [(2, .pointer (some ⟨b1, 0, none⟩)), (3, .int .i64 0), (4, .pointer (some ⟨b13, 0, none⟩)), (5, .int .i64 r16), (6, .string t18)]) (fun _ => [(b1, .cells #[.int .u64 0, .int .u64 0, .bool false, .int .i64 0, .bool false, .int .i64 0, .int .i64 0, .string (⟨#[]⟩ : ByteArray)] 26 (0, 0)), (b13, .cells #[.int .u64 r7, .int .u64 r11, .bool true, .int .i64 (i64 (Int.tdiv r24 8192)), .bool ((Int.tmod (i64 (Int.tdiv r24 4096)) 2) == 1), .int .i64 (Int.tmod r24 4096), .int .i64 0, .string (⟨#[]⟩ : ByteArray)] 26 (0, 0))]) (fun _ => [b13, b13, b13, b13]) (fun _ => by kernel_rfl) (fun _ => ?_)
            refine WP.seq ?_
            refine WP.region ?_
            refine WL.run 1 [] [2, 3, 4, 5, 6, 47] (fun _ => [(2, .pointer (some ⟨b1, 0, none⟩)), (3, .int .i64 0), (4, .pointer (some ⟨b13, 0, none⟩)), (5, .int .i64 r16), (6, .string t18), (47, .string t18)]) (fun _ => [(b1, .cells #[.int .u64 0, .int .u64 0, .bool false, .int .i64 0, .bool false, .int .i64 0, .int .i64 0, .string (⟨#[]⟩ : ByteArray)] 26 (0, 0)), (b13, .cells #[.int .u64 r7, .int .u64 r11, .bool true, .int .i64 (i64 (Int.tdiv r24 8192)), .bool ((Int.tmod (i64 (Int.tdiv r24 4096)) 2) == 1), .int .i64 (Int.tmod r24 4096), .int .i64 0, .string (⟨#[]⟩ : ByteArray)] 26 (0, 0))]) (fun _ => []) (fun _ => by kernel_rfl) (fun _ => ?_)
            obtain ⟨t26, h27, hM⟩ := bind_some hM
            refine WL.val (fun _ => run_sliceS (s := t18) (kl := .i64) (kh := .i64) (l := 2) (h := 4) (by kernel_rfl) (by kernel_rfl) (by kernel_rfl) (by kernel_rfl) h27) (by kernel_rfl) (by kernel_rfl) rfl ?_
            obtain ⟨r28, h29, hM⟩ := bind_some hM
            refine WL.callP [] [] (gangwayref04_word_calls t26 _ h29) (fun _ h => h) (by kernel_rfl) (by kernel_rfl) rfl ?_
            refine WL.run 1 [] [2, 3, 4, 5, 6] (fun _ => [(2, .pointer (some ⟨b1, 0, none⟩)), (3, .int .i64 0), (4, .pointer (some ⟨b13, 0, none⟩)), (5, .int .i64 r28), (6, .string t18)]) (fun _ => [(b1, .cells #[.int .u64 0, .int .u64 0, .bool false, .int .i64 0, .bool false, .int .i64 0, .int .i64 0, .string (⟨#[]⟩ : ByteArray)] 26 (0, 0)), (b13, .cells #[.int .u64 r7, .int .u64 r11, .bool true, .int .i64 (i64 (Int.tdiv r24 8192)), .bool ((Int.tmod (i64 (Int.tdiv r24 4096)) 2) == 1), .int .i64 (Int.tmod r24 4096), .int .i64 0, .string (⟨#[]⟩ : ByteArray)] 26 (0, 0))]) (fun _ => []) (fun _ => by kernel_rfl) (fun _ => ?_)
            refine WP.done ?_
            refine WP.region ?_
            refine WL.run 1 [] [2, 3, 4, 5, 6, 50] (fun _ => [(2, .pointer (some ⟨b1, 0, none⟩)), (3, .int .i64 0), (4, .pointer (some ⟨b13, 0, none⟩)), (5, .int .i64 r28), (6, .string t18), (50, .string t18)]) (fun _ => [(b1, .cells #[.int .u64 0, .int .u64 0, .bool false, .int .i64 0, .bool false, .int .i64 0, .int .i64 0, .string (⟨#[]⟩ : ByteArray)] 26 (0, 0)), (b13, .cells #[.int .u64 r7, .int .u64 r11, .bool true, .int .i64 (i64 (Int.tdiv r24 8192)), .bool ((Int.tmod (i64 (Int.tdiv r24 4096)) 2) == 1), .int .i64 (Int.tmod r24 4096), .int .i64 0, .string (⟨#[]⟩ : ByteArray)] 26 (0, 0))]) (fun _ => []) (fun _ => by kernel_rfl) (fun _ => ?_)
            obtain ⟨t30, h31, hM⟩ := bind_some hM
            refine WL.val (fun _ => run_sliceS_lo (s := t18) (kl := .i64) (l := 4) (by kernel_rfl) (by kernel_rfl) (by kernel_rfl) h31) (by kernel_rfl) (by kernel_rfl) rfl ?_
            refine WL.run 1 [] [2, 3, 4, 5, 6] (fun _ => [(2, .pointer (some ⟨b1, 0, none⟩)), (3, .int .i64 0), (4, .pointer (some ⟨b13, 0, none⟩)), (5, .int .i64 r28), (6, .string t30)]) (fun _ => [(b1, .cells #[.int .u64 0, .int .u64 0, .bool false, .int .i64 0, .bool false, .int .i64 0, .int .i64 0, .string (⟨#[]⟩ : ByteArray)] 26 (0, 0)), (b13, .cells #[.int .u64 r7, .int .u64 r11, .bool true, .int .i64 (i64 (Int.tdiv r24 8192)), .bool ((Int.tmod (i64 (Int.tdiv r24 4096)) 2) == 1), .int .i64 (Int.tmod r24 4096), .int .i64 0, .string (⟨#[]⟩ : ByteArray)] 26 (0, 0))]) (fun _ => []) (fun _ => by kernel_rfl) (fun _ => ?_)
            refine WP.done ?_
            exact WP.sub [2, 3, 4, 5, 6] (by kernel_rfl) (WP.pick [0, 1] (by kernel_rfl) (by kernel_rfl) (K2 (r28, t30, true, i64 (Int.tdiv r24 8192), ((Int.tmod (i64 (Int.tdiv r24 4096)) 2) == 1), Int.tmod r24 4096) hM))
        · replace hM := cond_f hM c20
          refine WP.skip ?_
          exact WP.sub [2, 3, 4, 5, 6] (by kernel_rfl) (WP.pick [0, 1] (by kernel_rfl) (by kernel_rfl) (K2 (r16, t18, false, 0, false, 0) hM))

end Go.Proofs.YtefbjefmclhhjaaDoor

namespace Go.Proofs.YtefbjefmclhhjaaDoor
open Go Eng
set_option linter.unusedVariables false
set_option linter.unusedSimpArgs false

/-! ### gangway/gangwaylaw04.EtherParses: function 3 -/
def gangwaylaw04_EtherParses.k1 (r4 : Int) (r8 : Int) (x14 : Bool) : Option (Bool) :=
  some (x14 && (r4 == r8))

def gangwaylaw04_EtherParses.f (k : Nat) (a0 : ByteArray) : Option (Bool) :=
  (sliceS a0 0 (imin (a0.size : Int) 1700)).bind fun t1 =>
  (ether_Parse.f k t1).bind fun (r3, r4) =>
  (gangwayref04_Parse.f k t1).bind fun (r7, r8) =>
  (gangwaylaw04_fixed.f k).bind fun r11 =>
  bif r11 then
    gangwaylaw04_EtherParses.k1 r4 r8 ((r3.Dst == r7.Dst) && ((r3.Src == r7.Src) && (((r3.Tag.Has == r7.Tag.Has) && ((r3.Tag.Pri == r7.Tag.Pri) && ((r3.Tag.Dei == r7.Tag.Dei) && ((r3.Tag.Vid == r7.Tag.Vid) && true)))) && ((r3.Type_ == r7.Type_) && ((r3.Body == r7.Body) && true)))))
  else
    gangwaylaw04_EtherParses.k1 r4 r8 false

set_option maxRecDepth 100000 in
theorem gangwaylaw04_EtherParses_calls (k : Nat) (a0 : ByteArray) (r : Bool) (h : gangwaylaw04_EtherParses.f k a0 = some r) : Pure Tryd.prog Glob 3 #[.string a0] (.bool r) := by
  intro w Z hS
  refine calls_of (args := [.string a0]) (L := [(0, .string a0)]) (N := 33) (S := Sat w Z [] [] Glob) Tryd.func3 rfl rfl (Nat.le_of_ble_eq_true rfl) rfl hS ?_
  have hM := h
  clear h hS
  unfold gangwaylaw04_EtherParses.f at hM
  refine WP.seq ?_
  refine WP.run [] [0, 2] (fun _ => [(0, .string a0), (2, .bool false)]) (fun _ => []) (fun _ => []) (fun _ => by kernel_rfl) (fun _ => ?_)
  refine WP.seq ?_
  refine WP.region ?_
  refine WL.run 4 [] [0, 2, 7, 10] (fun _ => [(0, .string a0), (2, .bool false), (7, .string a0), (10, .int .i64 (imin (a0.size : Int) 1700))]) (fun _ => []) (fun _ => []) (fun _ => by kernel_rfl) (fun _ => ?_)
  obtain ⟨t1, h2, hM⟩ := bind_some hM
  refine WL.val (fun _ => run_sliceS_hi (s := a0) (kh := .i64) (h := imin (a0.size : Int) 1700) (by kernel_rfl) (by kernel_rfl) (by kernel_rfl) h2) (by kernel_rfl) (by kernel_rfl) rfl ?_
  refine WL.run 1 [] [0, 2] (fun _ => [(0, .string t1), (2, .bool false)]) (fun _ => []) (fun _ => []) (fun _ => by kernel_rfl) (fun _ => ?_)
  refine WP.done ?_
  refine WP.seq ?_
  refine WP.region ?_
  refine WL.run 1 [] [0, 2, 13] (fun _ => [(0, .string t1), (2, .bool false), (13, .string t1)]) (fun _ => []) (fun _ => []) (fun _ => by kernel_rfl) (fun _ => ?_)
  obtain ⟨⟨r3, r4⟩, h5, hM⟩ := bind_some hM
  dsimp only at hM
  refine WL.callP [] [] (ether_Parse_calls k t1 _ h5) (fun _ h => h) (by kernel_rfl) (by kernel_rfl) rfl ?_
  refine WL.run 6 [0, 0, 0, 0, 0, 0, 0, 0] [0, 2, 3, 4] (fun b6 => [(0, .string t1), (2, .bool false), (3, .pointer (some ⟨b6, 0, none⟩)), (4, .int .i64 r4)]) (fun b6 => [(b6, .cells #[.int .u64 r3.Dst, .int .u64 r3.Src, .bool r3.Tag.Has, .int .i64 r3.Tag.Pri, .bool r3.Tag.Dei, .int .i64 r3.Tag.Vid, .int .i64 r3.Type_, .string r3.Body] 26 (0, 0))]) (fun b6 => [b6, b6, b6, b6, b6, b6, b6, b6]) (fun b6 => by kernel_rfl) (fun b6 => ?_)
  refine WP.done ?_
  refine WP.seq ?_
  refine WP.region ?_
  refine WL.run 1 [] [2, 3, 4, 18] (fun _ => [(2, .bool false), (3, .pointer (some ⟨b6, 0, none⟩)), (4, .int .i64 r4), (18, .string t1)]) (fun _ => [(b6, .cells #[.int .u64 r3.Dst, .int .u64 r3.Src, .bool r3.Tag.Has, .int .i64 r3.Tag.Pri, .bool r3.Tag.Dei, .int .i64 r3.Tag.Vid, .int .i64 r3.Type_, .string r3.Body] 26 (0, 0))]) (fun _ => []) (fun _ => by kernel_rfl) (fun _ => ?_)
  obtain ⟨⟨r7, r8⟩, h9, hM⟩ := bind_some hM
  dsimp only at hM
  refine WL.callP [] [] (gangwayref04_Parse_calls k t1 _ h9) (fun _ h => h) (by kernel_rfl) (by kernel_rfl) rfl ?_
  refine WL.run 6 [1, 1, 1, 1, 1, 1, 1, 1] [2, 3, 4, 5, 6] (fun b10 => [(2, .bool false), (3, .pointer (some ⟨b6, 0, none⟩)), (4, .int .i64 r4), (5, .pointer (some ⟨b10, 0, none⟩)), (6, .int .i64 r8)]) (fun b10 => [(b6, .cells #[.int .u64 r3.Dst, .int .u64 r3.Src, .bool r3.Tag.Has, .int .i64 r3.Tag.Pri, .bool r3.Tag.Dei, .int .i64 r3.Tag.Vid, .int .i64 r3.Type_, .string r3.Body] 26 (0, 0)), (b10, .cells #[.int .u64 r7.Dst, .int .u64 r7.Src, .bool r7.Tag.Has, .int .i64 r7.Tag.Pri, .bool r7.Tag.Dei, .int .i64 r7.Tag.Vid, .int .i64 r7.Type_, .string r7.Body] 26 (0, 0))]) (fun b10 => [b10, b10, b10, b10, b10, b10, b10, b10]) (fun b10 => by kernel_rfl) (fun b10 => ?_)
  refine WP.done ?_
  refine WP.seq ?_
  refine WP.region ?_
  obtain ⟨r11, h12, hM⟩ := bind_some hM
  refine WL.callP [] [] (gangwaylaw04_fixed_calls k _ h12) (fun _ h => h) (by kernel_rfl) (by kernel_rfl) rfl ?_
  refine WL.run 1 [] [2, 3, 4, 5, 6, 23] (fun _ => [(2, .bool false), (3, .pointer (some ⟨b6, 0, none⟩)), (4, .int .i64 r4), (5, .pointer (some ⟨b10, 0, none⟩)), (6, .int .i64 r8), (23, .bool r11)]) (fun _ => [(b6, .cells #[.int .u64 r3.Dst, .int .u64 r3.Src, .bool r3.Tag.Has, .int .i64 r3.Tag.Pri, .bool r3.Tag.Dei, .int .i64 r3.Tag.Vid, .int .i64 r3.Type_, .string r3.Body] 26 (0, 0)), (b10, .cells #[.int .u64 r7.Dst, .int .u64 r7.Src, .bool r7.Tag.Has, .int .i64 r7.Tag.Pri, .bool r7.Tag.Dei, .int .i64 r7.Tag.Vid, .int .i64 r7.Type_, .string r7.Body] 26 (0, 0))]) (fun _ => []) (fun _ => by kernel_rfl) (fun _ => ?_)
  refine WL.sub [2, 3, 4, 5, 6, 23] (L' := [(2, .bool false), (3, .pointer (some ⟨b6, 0, none⟩)), (4, .int .i64 r4), (5, .pointer (some ⟨b10, 0, none⟩)), (6, .int .i64 r8), (23, .bool r11)]) (by kernel_rfl) ?_
  refine WL.join (σ := Bool) 4 (fun st => gangwaylaw04_EtherParses.k1 r4 r8 st = some r) (fun st => [(2, .bool false), (4, .int .i64 r4), (6, .int .i64 r8), (27, .bool st)]) (fun st => Sat w Z [] [] Glob) (fun st hM => ?_) (fun K1 => ?_)
  ·
    obtain ⟨x14, rfl⟩ : ∃ y, y = st := ⟨st, rfl⟩
    replace hM : gangwaylaw04_EtherParses.k1 r4 r8 x14 = some r := hM
    unfold gangwaylaw04_EtherParses.k1 at hM
    show WL _ _ _ _ _ [(2, .bool false), (4, .int .i64 r4), (6, .int .i64 r8), (27, .bool x14)] (Sat w Z [] [] Glob)
    refine WL.run 1 [] [2, 4, 6, 28] (fun _ => [(2, .bool false), (4, .int .i64 r4), (6, .int .i64 r8), (28, .bool x14)]) (fun _ => []) (fun _ => []) (fun _ => by kernel_rfl) (fun _ => ?_)
    refine WL.sub [2, 4, 6, 28] (L' := [(2, .bool false), (4, .int .i64 r4), (6, .int .i64 r8), (28, .bool x14)]) (by kernel_rfl) ?_
    refine WL.both (fun b' => [(2, .bool false), (4, .int .i64 r4), (6, .int .i64 r8), (28, .bool b')]) x14 4 [] [] [2, 32] (fun b' => [(2, .bool false), (32, .bool (b' && (r4 == r8)))]) [] [] (fun _ => by kernel_rfl) (fun _ => by kernel_rfl) ?_
    refine WL.run 1 [] [2] (fun _ => [(2, .bool (x14 && (r4 == r8)))]) (fun _ => []) (fun _ => []) (fun _ => by kernel_rfl) (fun _ => ?_)
    refine WP.done ?_
    obtain rfl := Option.some.inj hM
    exact WP.ret [] [] (.bool (x14 && (r4 == r8))) (by kernel_rfl) (fun w' hw => ⟨rfl, hw.pick [] rfl⟩)
  ·
    refine WL.split (fun b' => [(2, .bool false), (3, .pointer (some ⟨b6, 0, none⟩)), (4, .int .i64 r4), (5, .pointer (some ⟨b10, 0, none⟩)), (6, .int .i64 r8), (23, .bool b')]) r11 (fun c13 => ?_) (fun c13 => ?_)
    · replace hM := cond_t hM c13
      refine WL.run 2 [0, 0, 0, 0, 0, 0, 0, 0, 1, 1, 1, 1, 1, 1, 1, 1] [2, 4, 6, 23, 24, 25] (fun _ => [(2, .bool false), (4, .int .i64 r4), (6, .int .i64 r8), (23, .bool true), (24, .agg #[.int .u64 r3.Dst, .int .u64 r3.Src, .bool r3.Tag.Has, .int .i64 r3.Tag.Pri, .bool r3.Tag.Dei, .int .i64 r3.Tag.Vid, .int .i64 r3.Type_, .string r3.Body]), (25, .agg #[.int .u64 r7.Dst, .int .u64 r7.Src, .bool r7.Tag.Has, .int .i64 r7.Tag.Pri, .bool r7.Tag.Dei, .int .i64 r7.Tag.Vid, .int .i64 r7.Type_, .string r7.Body])]) (fun _ => [(b6, .cells #[.int .u64 r3.Dst, .int .u64 r3.Src, .bool r3.Tag.Has, .int .i64 r3.Tag.Pri, .bool r3.Tag.Dei, .int .i64 r3.Tag.Vid, .int .i64 r3.Type_, .string r3.Body] 26 (0, 0)), (b10, .cells #[.int .u64 r7.Dst, .int .u64 r7.Src, .bool r7.Tag.Has, .int .i64 r7.Tag.Pri, .bool r7.Tag.Dei, .int .i64 r7.Tag.Vid, .int .i64 r7.Type_, .string r7.Body] 26 (0, 0))]) (fun _ => [b10, b10, b10, b10, b10, b10, b10, b10, b6, b6, b6, b6, b6, b6, b6, b6]) (fun _ => by kernel_rfl) (fun _ => ?_)
      refine WL.val (fun _ => run_structEq (xs := #[.int .u64 r3.Dst, .int .u64 r3.Src, .bool r3.Tag.Has, .int .i64 r3.Tag.Pri, .bool r3.Tag.Dei, .int .i64 r3.Tag.Vid, .int .i64 r3.Type_, .string r3.Body]) (ys := #[.int .u64 r7.Dst, .int .u64 r7.Src, .bool r7.Tag.Has, .int .i64 r7.Tag.Pri, .bool r7.Tag.Dei, .int .i64 r7.Tag.Vid, .int .i64 r7.Type_, .string r7.Body]) (b := ((r3.Dst == r7.Dst) && ((r3.Src == r7.Src) && (((r3.Tag.Has == r7.Tag.Has) && ((r3.Tag.Pri == r7.Tag.Pri) && ((r3.Tag.Dei == r7.Tag.Dei) && ((r3.Tag.Vid == r7.Tag.Vid) && true)))) && ((r3.Type_ == r7.Type_) && ((r3.Body == r7.Body) && true)))))) (by kernel_rfl) (by kernel_rfl) (by kernel_rfl) (by kernel_rfl)) (by kernel_rfl) (by kernel_rfl) rfl ?_
      refine WL.run 1 [] [2, 4, 6, 27] (fun _ => [(2, .bool false), (4, .int .i64 r4), (6, .int .i64 r8), (27, .bool ((r3.Dst == r7.Dst) && ((r3.Src == r7.Src) && (((r3.Tag.Has == r7.Tag.Has) && ((r3.Tag.Pri == r7.Tag.Pri) && ((r3.Tag.Dei == r7.Tag.Dei) && ((r3.Tag.Vid == r7.Tag.Vid) && true)))) && ((r3.Type_ == r7.Type_) && ((r3.Body == r7.Body) && true))))))]) (fun _ => [(b6, .cells #[.int .u64 r3.Dst, .int .u64 r3.Src, .bool r3.Tag.Has, .int .i64 r3.Tag.Pri, .bool r3.Tag.Dei, .int .i64 r3.Tag.Vid, .int .i64 r3.Type_, .string r3.Body] 26 (0, 0)), (b10, .cells #[.int .u64 r7.Dst, .int .u64 r7.Src, .bool r7.Tag.Has, .int .i64 r7.Tag.Pri, .bool r7.Tag.Dei, .int .i64 r7.Tag.Vid, .int .i64 r7.Type_, .string r7.Body] 26 (0, 0))]) (fun _ => []) (fun _ => by kernel_rfl) (fun _ => ?_)
      exact WL.sub [2, 4, 6, 27] (by kernel_rfl) (WL.pick [] (by kernel_rfl) (by kernel_rfl) (K1 ((r3.Dst == r7.Dst) && ((r3.Src == r7.Src) && (((r3.Tag.Has == r7.Tag.Has) && ((r3.Tag.Pri == r7.Tag.Pri) && ((r3.Tag.Dei == r7.Tag.Dei) && ((r3.Tag.Vid == r7.Tag.Vid) && true)))) && ((r3.Type_ == r7.Type_) && ((r3.Body == r7.Body) && true))))) hM))
    · replace hM := cond_f hM c13
      refine WL.run 4 [] [2, 4, 6, 27] (fun _ => [(2, .bool false), (4, .int .i64 r4), (6, .int .i64 r8), (27, .bool false)]) (fun _ => [(b6, .cells #[.int .u64 r3.Dst, .int .u64 r3.Src, .bool r3.Tag.Has, .int .i64 r3.Tag.Pri, .bool r3.Tag.Dei, .int .i64 r3.Tag.Vid, .int .i64 r3.Type_, .string r3.Body] 26 (0, 0)), (b10, .cells #[.int .u64 r7.Dst, .int .u64 r7.Src, .bool r7.Tag.Has, .int .i64 r7.Tag.Pri, .bool r7.Tag.Dei, .int .i64 r7.Tag.Vid, .int .i64 r7.Type_, .string r7.Body] 26 (0, 0))]) (fun _ => []) (fun _ => by kernel_rfl) (fun _ => ?_)
      exact WL.sub [2, 4, 6, 27] (by kernel_rfl) (WL.pick [] (by kernel_rfl) (by kernel_rfl) (K1 false hM))

end Go.Proofs.YtefbjefmclhhjaaDoor

namespace Go.Proofs.YtefbjefmclhhjaaDoor
open Go Eng
set_option linter.unusedVariables false
set_option linter.unusedSimpArgs false

/-! ### gangway/gangwayref04.tag: function 33 -/
def gangwayref04_tag.f (a0 : api_Tag) : Option (Bool) :=
  bif a0.Has then
    some ((((decide (a0.Pri ≥ 0)) && (decide (a0.Pri ≤ 7))) && (decide (a0.Vid ≥ 0))) && (decide (a0.Vid ≤ 4095)))
  else
    some (((a0.Pri == 0) && (!a0.Dei)) && (a0.Vid == 0))

set_option maxRecDepth 100000 in
theorem gangwayref04_tag_calls (a0 : api_Tag) (r : Bool) (h : gangwayref04_tag.f a0 = some r) : Pure Tryd.prog Glob 33 #[.agg #[.bool a0.Has, .int .i64 a0.Pri, .bool a0.Dei, .int .i64 a0.Vid]] (.bool r) := by
  intro w Z hS
  refine calls_of (args := [.agg #[.bool a0.Has, .int .i64 a0.Pri, .bool a0.Dei, .int .i64 a0.Vid]]) (L := [(0, .agg #[.bool a0.Has, .int .i64 a0.Pri, .bool a0.Dei, .int .i64 a0.Vid])]) (N := 36) (S := Sat w Z [] [] Glob) Tryd.func33 rfl rfl (Nat.le_of_ble_eq_true rfl) rfl hS ?_
  have hM := h
  clear h hS
  unfold gangwayref04_tag.f at hM
  refine WP.seq ?_
  refine WP.run [] [1, 2] (fun b1 => [(1, .pointer (some ⟨b1, 0, none⟩)), (2, .bool false)]) (fun b1 => [(b1, .cells #[.bool a0.Has, .int .i64 a0.Pri, .bool a0.Dei, .int .i64 a0.Vid] 24 (0, 0))]) (fun b1 => []) (fun b1 => by kernel_rfl) (fun b1 => ?_)
  refine WP.seq ?_
  refine WP.seq ?_
  refine WP.run [0] [1, 2, 4] (fun _ => [(1, .pointer (some ⟨b1, 0, none⟩)), (2, .bool false), (4, .bool a0.Has)]) (fun _ => [(b1, .cells #[.bool a0.Has, .int .i64 a0.Pri, .bool a0.Dei, .int .i64 a0.Vid] 24 (0, 0))]) (fun _ => [b1]) (fun _ => by kernel_rfl) (fun _ => ?_)
  refine WP.cond a0.Has rfl rfl (fun c2 => ?_) (fun c2 => ?_)
  · replace hM := cond_t hM c2
    refine WP.seq ?_
    refine WP.region ?_
    refine WL.run 4 [0] [1, 2, 8] (fun _ => [(1, .pointer (some ⟨b1, 0, none⟩)), (2, .bool false), (8, .bool (decide (a0.Pri ≥ 0)))]) (fun _ => [(b1, .cells #[.bool a0.Has, .int .i64 a0.Pri, .bool a0.Dei, .int .i64 a0.Vid] 24 (0, 0))]) (fun _ => [b1]) (fun _ => by kernel_rfl) (fun _ => ?_)
    refine WL.sub [1, 2, 8] (L' := [(1, .pointer (some ⟨b1, 0, none⟩)), (2, .bool false), (8, .bool (decide (a0.Pri ≥ 0)))]) (by kernel_rfl) ?_
    refine WL.both (fun b' => [(1, .pointer (some ⟨b1, 0, none⟩)), (2, .bool false), (8, .bool b')]) (decide (a0.Pri ≥ 0)) 4 [0] [] [1, 2, 12] (fun b' => [(1, .pointer (some ⟨b1, 0, none⟩)), (2, .bool false), (12, .bool (b' && (decide (a0.Pri ≤ 7))))]) [b1] [] (fun _ => by kernel_rfl) (fun _ => by kernel_rfl) ?_
    refine WL.run 1 [] [1, 2, 13] (fun _ => [(1, .pointer (some ⟨b1, 0, none⟩)), (2, .bool false), (13, .bool ((decide (a0.Pri ≥ 0)) && (decide (a0.Pri ≤ 7))))]) (fun _ => [(b1, .cells #[.bool a0.Has, .int .i64 a0.Pri, .bool a0.Dei, .int .i64 a0.Vid] 24 (0, 0))]) (fun _ => []) (fun _ => by kernel_rfl) (fun _ => ?_)
    refine WL.sub [1, 2, 13] (L' := [(1, .pointer (some ⟨b1, 0, none⟩)), (2, .bool false), (13, .bool ((decide (a0.Pri ≥ 0)) && (decide (a0.Pri ≤ 7))))]) (by kernel_rfl) ?_
    refine WL.both (fun b' => [(1, .pointer (some ⟨b1, 0, none⟩)), (2, .bool false), (13, .bool b')]) ((decide (a0.Pri ≥ 0)) && (decide (a0.Pri ≤ 7))) 4 [0] [] [1, 2, 17] (fun b' => [(1, .pointer (some ⟨b1, 0, none⟩)), (2, .bool false), (17, .bool (b' && (decide (a0.Vid ≥ 0))))]) [b1] [] (fun _ => by kernel_rfl) (fun _ => by kernel_rfl) ?_
    refine WL.run 1 [] [1, 2, 18] (fun _ => [(1, .pointer (some ⟨b1, 0, none⟩)), (2, .bool false), (18, .bool (((decide (a0.Pri ≥ 0)) && (decide (a0.Pri ≤ 7))) && (decide (a0.Vid ≥ 0))))]) (fun _ => [(b1, .cells #[.bool a0.Has, .int .i64 a0.Pri, .bool a0.Dei, .int .i64 a0.Vid] 24 (0, 0))]) (fun _ => []) (fun _ => by kernel_rfl) (fun _ => ?_)
    refine WL.sub [1, 2, 18] (L' := [(1, .pointer (some ⟨b1, 0, none⟩)), (2, .bool false), (18, .bool (((decide (a0.Pri ≥ 0)) && (decide (a0.Pri ≤ 7))) && (decide (a0.Vid ≥ 0))))]) (by kernel_rfl) ?_
    refine WL.both (fun b' => [(1, .pointer (some ⟨b1, 0, none⟩)), (2, .bool false), (18, .bool b')]) (((decide (a0.Pri ≥ 0)) && (decide (a0.Pri ≤ 7))) && (decide (a0.Vid ≥ 0))) 4 [0] [] [1, 2, 22] (fun b' => [(1, .pointer (some ⟨b1, 0, none⟩)), (2, .bool false), (22, .bool (b' && (decide (a0.Vid ≤ 4095))))]) [b1] [] (fun _ => by kernel_rfl) (fun _ => by kernel_rfl) ?_
    refine WL.run 1 [] [1, 2] (fun _ => [(1, .pointer (some ⟨b1, 0, none⟩)), (2, .bool ((((decide (a0.Pri ≥ 0)) && (decide (a0.Pri ≤ 7))) && (decide (a0.Vid ≥ 0))) && (decide (a0.Vid ≤ 4095))))]) (fun _ => [(b1, .cells #[.bool a0.Has, .int .i64 a0.Pri, .bool a0.Dei, .int .i64 a0.Vid] 24 (0, 0))]) (fun _ => []) (fun _ => by kernel_rfl) (fun _ => ?_)
    refine WP.done ?_
    obtain rfl := Option.some.inj hM
    exact WP.ret [] [] (.bool ((((decide (a0.Pri ≥ 0)) && (decide (a0.Pri ≤ 7))) && (decide (a0.Vid ≥ 0))) && (decide (a0.Vid ≤ 4095)))) (by kernel_rfl) (fun w' hw => ⟨rfl, hw.pick [] rfl⟩)
  · replace hM := cond_f hM c2
    refine WP.skip ?_
    refine WP.seq ?_
    refine WP.region ?_
    refine WL.run 4 [0] [1, 2, 26] (fun _ => [(1, .pointer (some ⟨b1, 0, none⟩)), (2, .bool false), (26, .bool (a0.Pri == 0))]) (fun _ => [(b1, .cells #[.bool a0.Has, .int .i64 a0.Pri, .bool a0.Dei, .int .i64 a0.Vid] 24 (0, 0))]) (fun _ => [b1]) (fun _ => by kernel_rfl) (fun _ => ?_)
    refine WL.sub [1, 2, 26] (L' := [(1, .pointer (some ⟨b1, 0, none⟩)), (2, .bool false), (26, .bool (a0.Pri == 0))]) (by kernel_rfl) ?_
    refine WL.both (fun b' => [(1, .pointer (some ⟨b1, 0, none⟩)), (2, .bool false), (26, .bool b')]) (a0.Pri == 0) 4 [0] [] [1, 2, 30] (fun b' => [(1, .pointer (some ⟨b1, 0, none⟩)), (2, .bool false), (30, .bool (b' && (!a0.Dei)))]) [b1] [] (fun _ => by kernel_rfl) (fun _ => by kernel_rfl) ?_
    refine WL.run 1 [] [1, 2, 31] (fun _ => [(1, .pointer (some ⟨b1, 0, none⟩)), (2, .bool false), (31, .bool ((a0.Pri == 0) && (!a0.Dei)))]) (fun _ => [(b1, .cells #[.bool a0.Has, .int .i64 a0.Pri, .bool a0.Dei, .int .i64 a0.Vid] 24 (0, 0))]) (fun _ => []) (fun _ => by kernel_rfl) (fun _ => ?_)
    refine WL.sub [1, 2, 31] (L' := [(1, .pointer (some ⟨b1, 0, none⟩)), (2, .bool false), (31, .bool ((a0.Pri == 0) && (!a0.Dei)))]) (by kernel_rfl) ?_
    refine WL.both (fun b' => [(1, .pointer (some ⟨b1, 0, none⟩)), (2, .bool false), (31, .bool b')]) ((a0.Pri == 0) && (!a0.Dei)) 4 [0] [] [2, 35] (fun b' => [(2, .bool false), (35, .bool (b' && (a0.Vid == 0)))]) [b1] [] (fun _ => by kernel_rfl) (fun _ => by kernel_rfl) ?_
    refine WL.run 1 [] [2] (fun _ => [(2, .bool (((a0.Pri == 0) && (!a0.Dei)) && (a0.Vid == 0)))]) (fun _ => [(b1, .cells #[.bool a0.Has, .int .i64 a0.Pri, .bool a0.Dei, .int .i64 a0.Vid] 24 (0, 0))]) (fun _ => []) (fun _ => by kernel_rfl) (fun _ => ?_)
    refine WP.done ?_
    refine WP.keep [false] (by kernel_rfl : _ = []) ?_
    obtain rfl := Option.some.inj hM
    exact WP.ret [] [] (.bool (((a0.Pri == 0) && (!a0.Dei)) && (a0.Vid == 0))) (by kernel_rfl) (fun w' hw => ⟨rfl, hw.pick [] rfl⟩)

end Go.Proofs.YtefbjefmclhhjaaDoor

namespace Go.Proofs.YtefbjefmclhhjaaDoor
open Go Eng
set_option linter.unusedVariables false
set_option linter.unusedSimpArgs false

/-! ### gangway/gangwayref04.Check: function 16 -/
def gangwayref04_Check.k3 (x12 : Int) : Option (Int) :=
  bif decide (x12 > 1600) then
    some 41
  else
    some 0

def gangwayref04_Check.k2 (a0 : api_Frame) (x8 : Bool) : Option (Int) :=
  bif x8 then
    some 41
  else
    bif ((a0.Type_ == 0) && (decide ((a0.Body.size : Int) > 1500))) then
      some 40
    else
      bif a0.Tag.Has then
        gangwayref04_Check.k3 (i64 ((i64 (14 + (a0.Body.size : Int))) + 4))
      else
        gangwayref04_Check.k3 (i64 (14 + (a0.Body.size : Int)))

def gangwayref04_Check.k1 (a0 : api_Frame) (x5 : Bool) : Option (Int) :=
  bif x5 then
    some 41
  else
    bif (a0.Type_ != 0) then
      gangwayref04_Check.k2 a0 (((decide (a0.Type_ < 1536)) || (decide (a0.Type_ > 65535))) || (a0.Type_ == 33024))
    else
      gangwayref04_Check.k2 a0 false

def gangwayref04_Check.f (a0 : api_Frame) : Option (Int) :=
  bif (((Int.fdiv a0.Dst 281474976710656) != 0) || ((Int.fdiv a0.Src 281474976710656) != 0)) then
    gangwayref04_Check.k1 a0 true
  else
    (gangwayref04_tag.f a0.Tag).bind fun r3 =>
    gangwayref04_Check.k1 a0 (!r3)

set_option maxRecDepth 100000 in
theorem gangwayref04_Check_calls (a0 : api_Frame) (r : Int) (h : gangwayref04_Check.f a0 = some r) : Pure Tryd.prog Glob 16 #[.agg #[.int .u64 a0.Dst, .int .u64 a0.Src, .bool a0.Tag.Has, .int .i64 a0.Tag.Pri, .bool a0.Tag.Dei, .int .i64 a0.Tag.Vid, .int .i64 a0.Type_, .string a0.Body]] (.int .i64 r) := by
  intro w Z hS
  refine calls_of (args := [.agg #[.int .u64 a0.Dst, .int .u64 a0.Src, .bool a0.Tag.Has, .int .i64 a0.Tag.Pri, .bool a0.Tag.Dei, .int .i64 a0.Tag.Vid, .int .i64 a0.Type_, .string a0.Body]]) (L := [(0, .agg #[.int .u64 a0.Dst, .int .u64 a0.Src, .bool a0.Tag.Has, .int .i64 a0.Tag.Pri, .bool a0.Tag.Dei, .int .i64 a0.Tag.Vid, .int .i64 a0.Type_, .string a0.Body])]) (N := 58) (S := Sat w Z [] [] Glob) Tryd.func16 rfl rfl (Nat.le_of_ble_eq_true rfl) rfl hS ?_
  have hM := h
  clear h hS
  unfold gangwayref04_Check.f at hM
  refine WP.seq ?_
  refine WP.run [] [1, 2] (fun b1 => [(1, .pointer (some ⟨b1, 0, none⟩)), (2, .int .i64 0)]) (fun b1 => [(b1, .cells #[.int .u64 a0.Dst, .int .u64 a0.Src, .bool a0.Tag.Has, .int .i64 a0.Tag.Pri, .bool a0.Tag.Dei, .int .i64 a0.Tag.Vid, .int .i64 a0.Type_, .string a0.Body] 26 (0, 0))]) (fun b1 => []) (fun b1 => by kernel_rfl) (fun b1 => ?_)
  refine WP.seq ?_
  refine WP.seq ?_
  refine WP.region ?_
  refine WL.run 5 [0] [1, 2, 8] (fun _ => [(1, .pointer (some ⟨b1, 0, none⟩)), (2, .int .i64 0), (8, .bool ((Int.fdiv a0.Dst 281474976710656) != 0))]) (fun _ => [(b1, .cells #[.int .u64 a0.Dst, .int .u64 a0.Src, .bool a0.Tag.Has, .int .i64 a0.Tag.Pri, .bool a0.Tag.Dei, .int .i64 a0.Tag.Vid, .int .i64 a0.Type_, .string a0.Body] 26 (0, 0))]) (fun _ => [b1]) (fun _ => by kernel_rfl) (fun _ => ?_)
  refine WL.sub [1, 2, 8] (L' := [(1, .pointer (some ⟨b1, 0, none⟩)), (2, .int .i64 0), (8, .bool ((Int.fdiv a0.Dst 281474976710656) != 0))]) (by kernel_rfl) ?_
  refine WL.both (fun b' => [(1, .pointer (some ⟨b1, 0, none⟩)), (2, .int .i64 0), (8, .bool b')]) ((Int.fdiv a0.Dst 281474976710656) != 0) 5 [] [0] [1, 2, 13] (fun b' => [(1, .pointer (some ⟨b1, 0, none⟩)), (2, .int .i64 0), (13, .bool (b' || ((Int.fdiv a0.Src 281474976710656) != 0)))]) [] [b1] (fun _ => by kernel_rfl) (fun _ => by kernel_rfl) ?_
  refine WL.run 1 [] [1, 2, 14] (fun _ => [(1, .pointer (some ⟨b1, 0, none⟩)), (2, .int .i64 0), (14, .bool (((Int.fdiv a0.Dst 281474976710656) != 0) || ((Int.fdiv a0.Src 281474976710656) != 0)))]) (fun _ => [(b1, .cells #[.int .u64 a0.Dst, .int .u64 a0.Src, .bool a0.Tag.Has, .int .i64 a0.Tag.Pri, .bool a0.Tag.Dei, .int .i64 a0.Tag.Vid, .int .i64 a0.Type_, .string a0.Body] 26 (0, 0))]) (fun _ => []) (fun _ => by kernel_rfl) (fun _ => ?_)
  refine WL.sub [1, 2, 14] (L' := [(1, .pointer (some ⟨b1, 0, none⟩)), (2, .int .i64 0), (14, .bool (((Int.fdiv a0.Dst 281474976710656) != 0) || ((Int.fdiv a0.Src 281474976710656) != 0)))]) (by kernel_rfl) ?_
  refine WL.join (σ := Bool) 5 (fun st => gangwayref04_Check.k1 a0 st = some r) (fun st => [(1, .pointer (some ⟨b1, 0, none⟩)), (2, .int .i64 0), (19, .bool st)]) (fun st => Sat w Z [(b1, .cells #[.int .u64 a0.Dst, .int .u64 a0.Src, .bool a0.Tag.Has, .int .i64 a0.Tag.Pri, .bool a0.Tag.Dei, .int .i64 a0.Tag.Vid, .int .i64 a0.Type_, .string a0.Body] 26 (0, 0))] [] Glob) (fun st hM => ?_) (fun K1 => ?_)
  ·
    obtain ⟨x5, rfl⟩ : ∃ y, y = st := ⟨st, rfl⟩
    replace hM : gangwayref04_Check.k1 a0 x5 = some r := hM
    unfold gangwayref04_Check.k1 at hM
    show WL _ _ _ _ _ [(1, .pointer (some ⟨b1, 0, none⟩)), (2, .int .i64 0), (19, .bool x5)] (Sat w Z [(b1, .cells #[.int .u64 a0.Dst, .int .u64 a0.Src, .bool a0.Tag.Has, .int .i64 a0.Tag.Pri, .bool a0.Tag.Dei, .int .i64 a0.Tag.Vid, .int .i64 a0.Type_, .string a0.Body] 26 (0, 0))] [] Glob)
    refine WP.done ?_
    refine WP.cond x5 rfl rfl (fun c6 => ?_) (fun c6 => ?_)
    · replace hM := cond_t hM c6
      refine WP.seq ?_
      refine WP.run [] [1, 2] (fun _ => [(1, .pointer (some ⟨b1, 0, none⟩)), (2, .int .i64 41)]) (fun _ => [(b1, .cells #[.int .u64 a0.Dst, .int .u64 a0.Src, .bool a0.Tag.Has, .int .i64 a0.Tag.Pri, .bool a0.Tag.Dei, .int .i64 a0.Tag.Vid, .int .i64 a0.Type_, .string a0.Body] 26 (0, 0))]) (fun _ => []) (fun _ => by kernel_rfl) (fun _ => ?_)
      obtain rfl := Option.some.inj hM
      exact WP.ret [] [] (.int .i64 41) (by kernel_rfl) (fun w' hw => ⟨rfl, hw.pick [] rfl⟩)
    · replace hM := cond_f hM c6
      refine WP.skip ?_
      refine WP.seq ?_
      refine WP.seq ?_
      refine WP.region ?_
      refine WL.run 4 [0] [1, 2, 23] (fun _ => [(1, .pointer (some ⟨b1, 0, none⟩)), (2, .int .i64 0), (23, .bool (a0.Type_ != 0))]) (fun _ => [(b1, .cells #[.int .u64 a0.Dst, .int .u64 a0.Src, .bool a0.Tag.Has, .int .i64 a0.Tag.Pri, .bool a0.Tag.Dei, .int .i64 a0.Tag.Vid, .int .i64 a0.Type_, .string a0.Body] 26 (0, 0))]) (fun _ => [b1]) (fun _ => by kernel_rfl) (fun _ => ?_)
      refine WL.sub [1, 2, 23] (L' := [(1, .pointer (some ⟨b1, 0, none⟩)), (2, .int .i64 0), (23, .bool (a0.Type_ != 0))]) (by kernel_rfl) ?_
      refine WL.join (σ := Bool) 14 (fun st => gangwayref04_Check.k2 a0 st = some r) (fun st => [(1, .pointer (some ⟨b1, 0, none⟩)), (2, .int .i64 0), (37, .bool st)]) (fun st => Sat w Z [(b1, .cells #[.int .u64 a0.Dst, .int .u64 a0.Src, .bool a0.Tag.Has, .int .i64 a0.Tag.Pri, .bool a0.Tag.Dei, .int .i64 a0.Tag.Vid, .int .i64 a0.Type_, .string a0.Body] 26 (0, 0))] [] Glob) (fun st hM => ?_) (fun K2 => ?_)
      ·
        obtain ⟨x8, rfl⟩ : ∃ y, y = st := ⟨st, rfl⟩
        replace hM : gangwayref04_Check.k2 a0 x8 = some r := hM
        unfold gangwayref04_Check.k2 at hM
        show WL _ _ _ _ _ [(1, .pointer (some ⟨b1, 0, none⟩)), (2, .int .i64 0), (37, .bool x8)] (Sat w Z [(b1, .cells #[.int .u64 a0.Dst, .int .u64 a0.Src, .bool a0.Tag.Has, .int .i64 a0.Tag.Pri, .bool a0.Tag.Dei, .int .i64 a0.Tag.Vid, .int .i64 a0.Type_, .string a0.Body] 26 (0, 0))] [] Glob)
        refine WP.done ?_
        refine WP.cond x8 rfl rfl (fun c9 => ?_) (fun c9 => ?_)
        · replace hM := cond_t hM c9
          refine WP.seq ?_
          refine WP.run [] [1, 2] (fun _ => [(1, .pointer (some ⟨b1, 0, none⟩)), (2, .int .i64 41)]) (fun _ => [(b1, .cells #[.int .u64 a0.Dst, .int .u64 a0.Src, .bool a0.Tag.Has, .int .i64 a0.Tag.Pri, .bool a0.Tag.Dei, .int .i64 a0.Tag.Vid, .int .i64 a0.Type_, .string a0.Body] 26 (0, 0))]) (fun _ => []) (fun _ => by kernel_rfl) (fun _ => ?_)
          obtain rfl := Option.some.inj hM
          exact WP.ret [] [] (.int .i64 41) (by kernel_rfl) (fun w' hw => ⟨rfl, hw.pick [] rfl⟩)
        · replace hM := cond_f hM c9
          refine WP.skip ?_
          refine WP.seq ?_
          refine WP.seq ?_
          refine WP.region ?_
          refine WL.run 4 [0] [1, 2, 41] (fun _ => [(1, .pointer (some ⟨b1, 0, none⟩)), (2, .int .i64 0), (41, .bool (a0.Type_ == 0))]) (fun _ => [(b1, .cells #[.int .u64 a0.Dst, .int .u64 a0.Src, .bool a0.Tag.Has, .int .i64 a0.Tag.Pri, .bool a0.Tag.Dei, .int .i64 a0.Tag.Vid, .int .i64 a0.Type_, .string a0.Body] 26 (0, 0))]) (fun _ => [b1]) (fun _ => by kernel_rfl) (fun _ => ?_)
          refine WL.sub [1, 2, 41] (L' := [(1, .pointer (some ⟨b1, 0, none⟩)), (2, .int .i64 0), (41, .bool (a0.Type_ == 0))]) (by kernel_rfl) ?_
          refine WL.both (fun b' => [(1, .pointer (some ⟨b1, 0, none⟩)), (2, .int .i64 0), (41, .bool b')]) (a0.Type_ == 0) 5 [0] [] [1, 2, 46] (fun b' => [(1, .pointer (some ⟨b1, 0, none⟩)), (2, .int .i64 0), (46, .bool (b' && (decide ((a0.Body.size : Int) > 1500))))]) [b1] [] (fun _ => by kernel_rfl) (fun _ => by kernel_rfl) ?_
          refine WP.done ?_
          refine WP.cond ((a0.Type_ == 0) && (decide ((a0.Body.size : Int) > 1500))) rfl rfl (fun c10 => ?_) (fun c10 => ?_)
          · replace hM := cond_t hM c10
            refine WP.seq ?_
            refine WP.run [] [1, 2] (fun _ => [(1, .pointer (some ⟨b1, 0, none⟩)), (2, .int .i64 40)]) (fun _ => [(b1, .cells #[.int .u64 a0.Dst, .int .u64 a0.Src, .bool a0.Tag.Has, .int .i64 a0.Tag.Pri, .bool a0.Tag.Dei, .int .i64 a0.Tag.Vid, .int .i64 a0.Type_, .string a0.Body] 26 (0, 0))]) (fun _ => []) (fun _ => by kernel_rfl) (fun _ => ?_)
            obtain rfl := Option.some.inj hM
            exact WP.ret [] [] (.int .i64 40) (by kernel_rfl) (fun w' hw => ⟨rfl, hw.pick [] rfl⟩)
          · replace hM := cond_f hM c10
            refine WP.skip ?_
            refine WP.seq ?_
            refine WP.run [0] [1, 2, 3] (fun _ => [(1, .pointer (some ⟨b1, 0, none⟩)), (2, .int .i64 0), (3, .int .i64 (i64 (14 + (a0.Body.size : Int))))]) (fun _ => [(b1, .cells #[.int .u64 a0.Dst, .int .u64 a0.Src, .bool a0.Tag.Has, .int .i64 a0.Tag.Pri, .bool a0.Tag.Dei, .int .i64 a0.Tag.Vid, .int .i64 a0.Type_, .string a0.Body] 26 (0, 0))]) (fun _ => [b1]) (fun _ => by kernel_rfl) (fun _ => ?_)
            refine WP.seqJoin (σ := Int) (fun st => gangwayref04_Check.k3 st = some r) (fun st => [(2, .int .i64 0), (3, .int .i64 st)]) (fun st => Sat w Z [] [] Glob) (fun st hM => ?_) (fun K3 => ?_)
            ·
              obtain ⟨x12, rfl⟩ : ∃ y, y = st := ⟨st, rfl⟩
              replace hM : gangwayref04_Check.k3 x12 = some r := hM
              unfold gangwayref04_Check.k3 at hM
              show WP _ _ _ _ _ [(2, .int .i64 0), (3, .int .i64 x12)] (Sat w Z [] [] Glob)
              refine WP.seq ?_
              refine WP.seq ?_
              refine WP.run [] [2, 57] (fun _ => [(2, .int .i64 0), (57, .bool (decide (x12 > 1600)))]) (fun _ => []) (fun _ => []) (fun _ => by kernel_rfl) (fun _ => ?_)
              refine WP.cond (decide (x12 > 1600)) rfl rfl (fun c13 => ?_) (fun c13 => ?_)
              · replace hM := cond_t hM c13
                refine WP.seq ?_
                refine WP.run [] [2] (fun _ => [(2, .int .i64 41)]) (fun _ => []) (fun _ => []) (fun _ => by kernel_rfl) (fun _ => ?_)
                obtain rfl := Option.some.inj hM
                exact WP.ret [] [] (.int .i64 41) (by kernel_rfl) (fun w' hw => ⟨rfl, hw.pick [] rfl⟩)
              · replace hM := cond_f hM c13
                refine WP.skip ?_
                refine WP.seq ?_
                refine WP.run [] [2] (fun _ => [(2, .int .i64 0)]) (fun _ => []) (fun _ => []) (fun _ => by kernel_rfl) (fun _ => ?_)
                obtain rfl := Option.some.inj hM
                exact WP.ret [] [] (.int .i64 0) (by kernel_rfl) (fun w' hw => ⟨rfl, hw.pick [] rfl⟩)
            ·
              refine WP.seq ?_
              refine WP.run [0] [2, 3, 53] (fun _ => [(2, .int .i64 0), (3, .int .i64 (i64 (14 + (a0.Body.size : Int)))), (53, .bool a0.Tag.Has)]) (fun _ => [(b1, .cells #[.int .u64 a0.Dst, .int .u64 a0.Src, .bool a0.Tag.Has, .int .i64 a0.Tag.Pri, .bool a0.Tag.Dei, .int .i64 a0.Tag.Vid, .int .i64 a0.Type_, .string a0.Body] 26 (0, 0))]) (fun _ => [b1]) (fun _ => by kernel_rfl) (fun _ => ?_)
              refine WP.keep [false] (by kernel_rfl : _ = []) ?_
              refine WP.cond a0.Tag.Has rfl rfl (fun c11 => ?_) (fun c11 => ?_)
              · replace hM := cond_t hM c11
                refine WP.run [] [2, 3] (fun _ => [(2, .int .i64 0), (3, .int .i64 (i64 ((i64 (14 + (a0.Body.size : Int))) + 4)))]) (fun _ => []) (fun _ => []) (fun _ => by kernel_rfl) (fun _ => ?_)
                exact WP.sub [2, 3] (by kernel_rfl) (WP.pick [] (by kernel_rfl) (by kernel_rfl) (K3 (i64 ((i64 (14 + (a0.Body.size : Int))) + 4)) hM))
              · replace hM := cond_f hM c11
                refine WP.skip ?_
                exact WP.sub [2, 3] (by kernel_rfl) (WP.pick [] (by kernel_rfl) (by kernel_rfl) (K3 (i64 (14 + (a0.Body.size : Int))) hM))
      ·
        refine WL.split (fun b' => [(1, .pointer (some ⟨b1, 0, none⟩)), (2, .int .i64 0), (23, .bool b')]) (a0.Type_ != 0) (fun c7 => ?_) (fun c7 => ?_)
        · replace hM := cond_t hM c7
          refine WL.run 4 [0] [1, 2, 23, 27] (fun _ => [(1, .pointer (some ⟨b1, 0, none⟩)), (2, .int .i64 0), (23, .bool true), (27, .bool (decide (a0.Type_ < 1536)))]) (fun _ => [(b1, .cells #[.int .u64 a0.Dst, .int .u64 a0.Src, .bool a0.Tag.Has, .int .i64 a0.Tag.Pri, .bool a0.Tag.Dei, .int .i64 a0.Tag.Vid, .int .i64 a0.Type_, .string a0.Body] 26 (0, 0))]) (fun _ => [b1]) (fun _ => by kernel_rfl) (fun _ => ?_)
          refine WL.sub [1, 2, 23, 27] (L' := [(1, .pointer (some ⟨b1, 0, none⟩)), (2, .int .i64 0), (23, .bool true), (27, .bool (decide (a0.Type_ < 1536)))]) (by kernel_rfl) ?_
          refine WL.both (fun b' => [(1, .pointer (some ⟨b1, 0, none⟩)), (2, .int .i64 0), (23, .bool true), (27, .bool b')]) (decide (a0.Type_ < 1536)) 4 [] [0] [1, 2, 23, 31] (fun b' => [(1, .pointer (some ⟨b1, 0, none⟩)), (2, .int .i64 0), (23, .bool true), (31, .bool (b' || (decide (a0.Type_ > 65535))))]) [] [b1] (fun _ => by kernel_rfl) (fun _ => by kernel_rfl) ?_
          refine WL.run 1 [] [1, 2, 23, 32] (fun _ => [(1, .pointer (some ⟨b1, 0, none⟩)), (2, .int .i64 0), (23, .bool true), (32, .bool ((decide (a0.Type_ < 1536)) || (decide (a0.Type_ > 65535))))]) (fun _ => [(b1, .cells #[.int .u64 a0.Dst, .int .u64 a0.Src, .bool a0.Tag.Has, .int .i64 a0.Tag.Pri, .bool a0.Tag.Dei, .int .i64 a0.Tag.Vid, .int .i64 a0.Type_, .string a0.Body] 26 (0, 0))]) (fun _ => []) (fun _ => by kernel_rfl) (fun _ => ?_)
          refine WL.sub [1, 2, 23, 32] (L' := [(1, .pointer (some ⟨b1, 0, none⟩)), (2, .int .i64 0), (23, .bool true), (32, .bool ((decide (a0.Type_ < 1536)) || (decide (a0.Type_ > 65535))))]) (by kernel_rfl) ?_
          refine WL.both (fun b' => [(1, .pointer (some ⟨b1, 0, none⟩)), (2, .int .i64 0), (23, .bool true), (32, .bool b')]) ((decide (a0.Type_ < 1536)) || (decide (a0.Type_ > 65535))) 4 [] [0] [1, 2, 23, 36] (fun b' => [(1, .pointer (some ⟨b1, 0, none⟩)), (2, .int .i64 0), (23, .bool true), (36, .bool (b' || (a0.Type_ == 33024)))]) [] [b1] (fun _ => by kernel_rfl) (fun _ => by kernel_rfl) ?_
          refine WL.run 1 [] [1, 2, 37] (fun _ => [(1, .pointer (some ⟨b1, 0, none⟩)), (2, .int .i64 0), (37, .bool (((decide (a0.Type_ < 1536)) || (decide (a0.Type_ > 65535))) || (a0.Type_ == 33024)))]) (fun _ => [(b1, .cells #[.int .u64 a0.Dst, .int .u64 a0.Src, .bool a0.Tag.Has, .int .i64 a0.Tag.Pri, .bool a0.Tag.Dei, .int .i64 a0.Tag.Vid, .int .i64 a0.Type_, .string a0.Body] 26 (0, 0))]) (fun _ => []) (fun _ => by kernel_rfl) (fun _ => ?_)
          exact WL.sub [1, 2, 37] (by kernel_rfl) (WL.pick [0] (by kernel_rfl) (by kernel_rfl) (K2 (((decide (a0.Type_ < 1536)) || (decide (a0.Type_ > 65535))) || (a0.Type_ == 33024)) hM))
        · replace hM := cond_f hM c7
          refine WL.run 14 [] [1, 2, 37] (fun _ => [(1, .pointer (some ⟨b1, 0, none⟩)), (2, .int .i64 0), (37, .bool false)]) (fun _ => [(b1, .cells #[.int .u64 a0.Dst, .int .u64 a0.Src, .bool a0.Tag.Has, .int .i64 a0.Tag.Pri, .bool a0.Tag.Dei, .int .i64 a0.Tag.Vid, .int .i64 a0.Type_, .string a0.Body] 26 (0, 0))]) (fun _ => []) (fun _ => by kernel_rfl) (fun _ => ?_)
          exact WL.sub [1, 2, 37] (by kernel_rfl) (WL.pick [0] (by kernel_rfl) (by kernel_rfl) (K2 false hM))
  ·
    refine WL.split (fun b' => [(1, .pointer (some ⟨b1, 0, none⟩)), (2, .int .i64 0), (14, .bool b')]) (((Int.fdiv a0.Dst 281474976710656) != 0) || ((Int.fdiv a0.Src 281474976710656) != 0)) (fun c2 => ?_) (fun c2 => ?_)
    · replace hM := cond_t hM c2
      refine WL.run 5 [] [1, 2, 19] (fun _ => [(1, .pointer (some ⟨b1, 0, none⟩)), (2, .int .i64 0), (19, .bool true)]) (fun _ => [(b1, .cells #[.int .u64 a0.Dst, .int .u64 a0.Src, .bool a0.Tag.Has, .int .i64 a0.Tag.Pri, .bool a0.Tag.Dei, .int .i64 a0.Tag.Vid, .int .i64 a0.Type_, .string a0.Body] 26 (0, 0))]) (fun _ => []) (fun _ => by kernel_rfl) (fun _ => ?_)
      exact WL.sub [1, 2, 19] (by kernel_rfl) (WL.pick [0] (by kernel_rfl) (by kernel_rfl) (K1 true hM))
    · replace hM := cond_f hM c2
      refine WL.run 2 [0, 0, 0, 0] [1, 2, 14, 16] (fun _ => [(1, .pointer (some ⟨b1, 0, none⟩)), (2, .int .i64 0), (14, .bool false), (16, .agg #[.bool a0.Tag.Has, .int .i64 a0.Tag.Pri, .bool a0.Tag.Dei, .int .i64 a0.Tag.Vid])]) (fun _ => [(b1, .cells #[.int .u64 a0.Dst, .int .u64 a0.Src, .bool a0.Tag.Has, .int .i64 a0.Tag.Pri, .bool a0.Tag.Dei, .int .i64 a0.Tag.Vid, .int .i64 a0.Type_, .string a0.Body] 26 (0, 0))]) (fun _ => [b1, b1, b1, b1]) (fun _ => by kernel_rfl) (fun _ => ?_)
      obtain ⟨r3, h4, hM⟩ := bind_some hM
      refine WL.callP [] [] (gangwayref04_tag_calls a0.Tag _ h4) (fun _ h => h) (by kernel_rfl) (by kernel_rfl) rfl ?_
      refine WL.run 2 [] [1, 2, 19] (fun _ => [(1, .pointer (some ⟨b1, 0, none⟩)), (2, .int .i64 0), (19, .bool (!r3))]) (fun _ => [(b1, .cells #[.int .u64 a0.Dst, .int .u64 a0.Src, .bool a0.Tag.Has, .int .i64 a0.Tag.Pri, .bool a0.Tag.Dei, .int .i64 a0.Tag.Vid, .int .i64 a0.Type_, .string a0.Body] 26 (0, 0))]) (fun _ => []) (fun _ => by kernel_rfl) (fun _ => ?_)
      exact WL.sub [1, 2, 19] (by kernel_rfl) (WL.pick [0] (by kernel_rfl) (by kernel_rfl) (K1 (!r3) hM))

end Go.Proofs.YtefbjefmclhhjaaDoor
