/- The walks of the functions that the laws reach: each shows that a call returns what its plain model says, wherever the model gives an answer. -/
import Derived.Test.YtbodofjnfmjbpaaGreatDoorF1
import Derived.Test.YtbodofjnfmjbpaaGreatDoorF2

namespace Go.Proofs.YtbodofjnfmjbpaaGreatDoor
open Go Eng
set_option linter.unusedVariables false
set_option linter.unusedSimpArgs false

/-! ### errors.As: function 34 -/
def errors_As_1.f (a0 : ByteArray) (a0_1 : Int) (a1 : Int) : Option (Bool × Int) :=
  (errors_as_1.f a0 a0_1 a1).bind fun (r2, r3) =>
  some (r2, r3)

set_option maxRecDepth 100000 in
theorem errors_As_1_calls (b_0 : Nat) (a0 : ByteArray) (a0_1 : Int) (a1 : Int) (r : Bool × Int) (h : errors_As_1.f a0 a0_1 a1 = some r) : Does Tryz.prog 34 #[.iface 183 (.agg #[.string a0, .iface 30 (.int .i64 a0_1)]), .iface 175 (.pointer (some ⟨b_0, 0, none⟩))] [(b_0, .cells #[.int .i64 a1] 30 (0, 0))] Glob (fun _ : Unit => .bool r.1) (fun _ => [(b_0, .cells #[.int .i64 r.2] 30 (0, 0))]) (fun _ => []) (fun _ => Glob) := by
  intro w Z hS
  refine calls_of (args := [.iface 183 (.agg #[.string a0, .iface 30 (.int .i64 a0_1)]), .iface 175 (.pointer (some ⟨b_0, 0, none⟩))]) (L := [(0, .iface 183 (.agg #[.string a0, .iface 30 (.int .i64 a0_1)])), (1, .iface 175 (.pointer (some ⟨b_0, 0, none⟩)))]) (N := 42) (S := Sat w Z [(b_0, .cells #[.int .i64 a1] 30 (0, 0))] [] Glob) Tryz.func34 rfl rfl (Nat.le_of_ble_eq_true rfl) rfl hS ?_
  have hM := h
  clear h hS
  unfold errors_As_1.f at hM
  refine WP.seq ?_
  refine WP.run [] [0, 1, 4] (fun _ => [(0, .iface 183 (.agg #[.string a0, .iface 30 (.int .i64 a0_1)])), (1, .iface 175 (.pointer (some ⟨b_0, 0, none⟩))), (4, .bool false)]) (fun _ => [(b_0, .cells #[.int .i64 a1] 30 (0, 0))]) (fun _ => []) (fun _ => by kernel_rfl) (fun _ => ?_)
  refine WP.seq ?_
  refine WP.seq ?_
  refine WP.run [] [0, 1, 4, 9] (fun _ => [(0, .iface 183 (.agg #[.string a0, .iface 30 (.int .i64 a0_1)])), (1, .iface 175 (.pointer (some ⟨b_0, 0, none⟩))), (4, .bool false), (9, .bool false)]) (fun _ => [(b_0, .cells #[.int .i64 a1] 30 (0, 0))]) (fun _ => []) (fun _ => by kernel_rfl) (fun _ => ?_)
  refine WP.no rfl rfl ?_
  refine WP.skip ?_
  refine WP.seq ?_
  refine WP.seq ?_
  refine WP.run [] [0, 1, 4, 11] (fun _ => [(0, .iface 183 (.agg #[.string a0, .iface 30 (.int .i64 a0_1)])), (1, .iface 175 (.pointer (some ⟨b_0, 0, none⟩))), (4, .bool false), (11, .bool false)]) (fun _ => [(b_0, .cells #[.int .i64 a1] 30 (0, 0))]) (fun _ => []) (fun _ => by kernel_rfl) (fun _ => ?_)
  refine WP.no rfl rfl ?_
  refine WP.skip ?_
  refine WP.seq ?_
  refine WP.run [2, 2, 2] [0, 1, 4, 5] (fun b1 => [(0, .iface 183 (.agg #[.string a0, .iface 30 (.int .i64 a0_1)])), (1, .iface 175 (.pointer (some ⟨b_0, 0, none⟩))), (4, .bool false), (5, .pointer (some ⟨(b1 + 1), 0, none⟩))]) (fun b1 => [(b_0, .cells #[.int .i64 a1] 30 (0, 0)), (b1, .cells #[.pointer (some ⟨b_0, 0, none⟩)] 175 (0, 0)), ((b1 + 1), .cells #[.pointer (some ⟨2, 175, none⟩), .pointer (some ⟨b1, 0, none⟩), .int .u64 150] 106 (0, 0))]) (fun b1 => [(b1 + 1), (b1 + 1), (b1 + 1)]) (fun b1 => by kernel_rfl) (fun b1 => ?_)
  refine WP.seq ?_
  refine WP.run [2, 2, 2] [0, 1, 4, 5, 6] (fun _ => [(0, .iface 183 (.agg #[.string a0, .iface 30 (.int .i64 a0_1)])), (1, .iface 175 (.pointer (some ⟨b_0, 0, none⟩))), (4, .bool false), (5, .pointer (some ⟨(b1 + 1), 0, none⟩)), (6, .iface 148 (.agg #[.pointer (some ⟨2, 175, none⟩)]))]) (fun _ => [(b_0, .cells #[.int .i64 a1] 30 (0, 0)), (b1, .cells #[.pointer (some ⟨b_0, 0, none⟩)] 175 (0, 0)), ((b1 + 1), .cells #[.pointer (some ⟨2, 175, none⟩), .pointer (some ⟨b1, 0, none⟩), .int .u64 150] 106 (0, 0))]) (fun _ => [(b1 + 1), (b1 + 1), (b1 + 1)]) (fun _ => by kernel_rfl) (fun _ => ?_)
  refine WP.seq ?_
  refine WP.seq ?_
  refine WP.run [2, 2, 2, 1] [0, 1, 4, 5, 6, 23] (fun _ => [(0, .iface 183 (.agg #[.string a0, .iface 30 (.int .i64 a0_1)])), (1, .iface 175 (.pointer (some ⟨b_0, 0, none⟩))), (4, .bool false), (5, .pointer (some ⟨(b1 + 1), 0, none⟩)), (6, .iface 148 (.agg #[.pointer (some ⟨2, 175, none⟩)])), (23, .bool false)]) (fun _ => [(b_0, .cells #[.int .i64 a1] 30 (0, 0)), (b1, .cells #[.pointer (some ⟨b_0, 0, none⟩)] 175 (0, 0)), ((b1 + 1), .cells #[.pointer (some ⟨2, 175, none⟩), .pointer (some ⟨b1, 0, none⟩), .int .u64 150] 106 (0, 0))]) (fun _ => [b1, (b1 + 1), (b1 + 1), (b1 + 1)]) (fun _ => by kernel_rfl) (fun _ => ?_)
  refine WP.no rfl rfl ?_
  refine WP.skip ?_
  refine WP.seq ?_
  refine WP.run [] [0, 1, 4, 5, 7] (fun _ => [(0, .iface 183 (.agg #[.string a0, .iface 30 (.int .i64 a0_1)])), (1, .iface 175 (.pointer (some ⟨b_0, 0, none⟩))), (4, .bool false), (5, .pointer (some ⟨(b1 + 1), 0, none⟩)), (7, .iface 148 (.agg #[.pointer (some ⟨2, 30, none⟩)]))]) (fun _ => [(b_0, .cells #[.int .i64 a1] 30 (0, 0)), (b1, .cells #[.pointer (some ⟨b_0, 0, none⟩)] 175 (0, 0)), ((b1 + 1), .cells #[.pointer (some ⟨2, 175, none⟩), .pointer (some ⟨b1, 0, none⟩), .int .u64 150] 106 (0, 0))]) (fun _ => []) (fun _ => by kernel_rfl) (fun _ => ?_)
  refine WP.seq ?_
  refine WP.seq ?_
  refine WP.region ?_
  refine WL.run 5 [] [0, 1, 4, 5, 7, 30, 31] (fun _ => [(0, .iface 183 (.agg #[.string a0, .iface 30 (.int .i64 a0_1)])), (1, .iface 175 (.pointer (some ⟨b_0, 0, none⟩))), (4, .bool false), (5, .pointer (some ⟨(b1 + 1), 0, none⟩)), (7, .iface 148 (.agg #[.pointer (some ⟨2, 30, none⟩)])), (30, .bool true), (31, .iface 148 (.agg #[.pointer (some ⟨2, 30, none⟩)]))]) (fun _ => [(b_0, .cells #[.int .i64 a1] 30 (0, 0)), (b1, .cells #[.pointer (some ⟨b_0, 0, none⟩)] 175 (0, 0)), ((b1 + 1), .cells #[.pointer (some ⟨2, 175, none⟩), .pointer (some ⟨b1, 0, none⟩), .int .u64 150] 106 (0, 0))]) (fun _ => []) (fun _ => by kernel_rfl) (fun _ => ?_)
  refine WL.loadGlob (v := .iface 148 (.agg #[.pointer (some ⟨2, 73, none⟩)])) (by simp [Glob]) (fun _ => by kernel_rfl) (by kernel_rfl) rfl ?_
  refine WL.run 3 [] [0, 1, 4, 5, 7, 35] (fun _ => [(0, .iface 183 (.agg #[.string a0, .iface 30 (.int .i64 a0_1)])), (1, .iface 175 (.pointer (some ⟨b_0, 0, none⟩))), (4, .bool false), (5, .pointer (some ⟨(b1 + 1), 0, none⟩)), (7, .iface 148 (.agg #[.pointer (some ⟨2, 30, none⟩)])), (35, .bool false)]) (fun _ => [(b_0, .cells #[.int .i64 a1] 30 (0, 0)), (b1, .cells #[.pointer (some ⟨b_0, 0, none⟩)] 175 (0, 0)), ((b1 + 1), .cells #[.pointer (some ⟨2, 175, none⟩), .pointer (some ⟨b1, 0, none⟩), .int .u64 150] 106 (0, 0))]) (fun _ => []) (fun _ => by kernel_rfl) (fun _ => ?_)
  refine WP.done ?_
  refine WP.no rfl rfl ?_
  refine WP.skip ?_
  refine WP.seq ?_
  refine WP.region ?_
  refine WL.run 4 [2, 2, 2] [4, 37, 38, 39, 40] (fun _ => [(4, .bool false), (37, .iface 183 (.agg #[.string a0, .iface 30 (.int .i64 a0_1)])), (38, .iface 175 (.pointer (some ⟨b_0, 0, none⟩))), (39, .agg #[.pointer (some ⟨2, 175, none⟩), .pointer (some ⟨b1, 0, none⟩), .int .u64 150]), (40, .iface 148 (.agg #[.pointer (some ⟨2, 30, none⟩)]))]) (fun _ => [(b_0, .cells #[.int .i64 a1] 30 (0, 0)), (b1, .cells #[.pointer (some ⟨b_0, 0, none⟩)] 175 (0, 0)), ((b1 + 1), .cells #[.pointer (some ⟨2, 175, none⟩), .pointer (some ⟨b1, 0, none⟩), .int .u64 150] 106 (0, 0))]) (fun _ => [(b1 + 1), (b1 + 1), (b1 + 1)]) (fun _ => by kernel_rfl) (fun _ => ?_)
  obtain ⟨⟨r2, r3⟩, h4, hM⟩ := bind_some hM
  dsimp only at hM
  refine WL.callE (X := Unit) [] [] [true, true, false] (fun _ => _) (errors_as_1_calls b_0 b1 a0 a0_1 a1 _ h4) rfl rfl (fun _ h => h) (by kernel_rfl) (by kernel_rfl) (fun _ => rfl) (fun _ => ?_)
  refine WL.run 1 [] [4] (fun _ => [(4, .bool r2)]) (fun _ => [(b_0, .cells #[.int .i64 r3] 30 (0, 0)), (b1, .cells #[.pointer (some ⟨b_0, 0, none⟩)] 175 (0, 0)), ((b1 + 1), .cells #[.pointer (some ⟨2, 175, none⟩), .pointer (some ⟨b1, 0, none⟩), .int .u64 150] 106 (0, 0))]) (fun _ => []) (fun _ => by kernel_rfl) (fun _ => ?_)
  refine WP.done ?_
  refine WP.keep [true, false, false] (by kernel_rfl : _ = [(b_0, .cells #[.int .i64 r3] 30 (0, 0))]) ?_
  obtain rfl := Option.some.inj hM
  exact WP.ret [] [] (.bool r2) (by kernel_rfl) (fun w' hw => ⟨(), rfl, hw.pick [0] (by kernel_rfl)⟩)

end Go.Proofs.YtbodofjnfmjbpaaGreatDoor

namespace Go.Proofs.YtbodofjnfmjbpaaGreatDoor
open Go Eng
set_option linter.unusedVariables false
set_option linter.unusedSimpArgs false

/-! ### gangway/ether.number: function 84 -/
def ether_number.f (a0 : ByteArray) (a0_1 : Int) : Option (Int) :=
  (errors_As_1.f a0 a0_1 0).bind fun (r2, r3) =>
  bif r2 then
    some r3
  else
    some 0

set_option maxRecDepth 100000 in
theorem ether_number_calls (a0 : ByteArray) (a0_1 : Int) (r : Int) (h : ether_number.f a0 a0_1 = some r) : Pure Tryz.prog Glob 84 #[.iface 183 (.agg #[.string a0, .iface 30 (.int .i64 a0_1)])] (.int .i64 r) := by
  intro w Z hS
  refine calls_of (args := [.iface 183 (.agg #[.string a0, .iface 30 (.int .i64 a0_1)])]) (L := [(0, .iface 183 (.agg #[.string a0, .iface 30 (.int .i64 a0_1)]))]) (N := 8) (S := Sat w Z [] [] Glob) Tryz.func84 rfl rfl (Nat.le_of_ble_eq_true rfl) rfl hS ?_
  have hM := h
  clear h hS
  unfold ether_number.f at hM
  refine WP.seq ?_
  refine WP.run [] [0, 2] (fun _ => [(0, .iface 183 (.agg #[.string a0, .iface 30 (.int .i64 a0_1)])), (2, .int .i64 0)]) (fun _ => []) (fun _ => []) (fun _ => by kernel_rfl) (fun _ => ?_)
  refine WP.seq ?_
  refine WP.run [] [0, 2, 3] (fun b1 => [(0, .iface 183 (.agg #[.string a0, .iface 30 (.int .i64 a0_1)])), (2, .int .i64 0), (3, .pointer (some ⟨b1, 0, none⟩))]) (fun b1 => [(b1, .cells #[.int .i64 0] 30 (0, 0))]) (fun b1 => []) (fun b1 => by kernel_rfl) (fun b1 => ?_)
  refine WP.seq ?_
  refine WP.seq ?_
  refine WP.region ?_
  refine WL.run 2 [] [2, 3, 4, 5] (fun _ => [(2, .int .i64 0), (3, .pointer (some ⟨b1, 0, none⟩)), (4, .iface 183 (.agg #[.string a0, .iface 30 (.int .i64 a0_1)])), (5, .iface 175 (.pointer (some ⟨b1, 0, none⟩)))]) (fun _ => [(b1, .cells #[.int .i64 0] 30 (0, 0))]) (fun _ => []) (fun _ => by kernel_rfl) (fun _ => ?_)
  obtain ⟨⟨r2, r3⟩, h4, hM⟩ := bind_some hM
  dsimp only at hM
  refine WL.callE (X := Unit) [] [] [true] (fun _ => _) (errors_As_1_calls b1 a0 a0_1 0 _ h4) rfl rfl (fun _ h => h) (by kernel_rfl) (by kernel_rfl) (fun _ => rfl) (fun _ => ?_)
  refine WP.done ?_
  refine WP.cond r2 rfl rfl (fun c5 => ?_) (fun c5 => ?_)
  · replace hM := cond_t hM c5
    refine WP.seq ?_
    refine WP.run [0] [2] (fun _ => [(2, .int .i64 r3)]) (fun _ => [(b1, .cells #[.int .i64 r3] 30 (0, 0))]) (fun _ => [b1]) (fun _ => by kernel_rfl) (fun _ => ?_)
    refine WP.keep [false] (by kernel_rfl : _ = []) ?_
    obtain rfl := Option.some.inj hM
    exact WP.ret [] [] (.int .i64 r3) (by kernel_rfl) (fun w' hw => ⟨rfl, hw.pick [] rfl⟩)
  · replace hM := cond_f hM c5
    refine WP.skip ?_
    refine WP.seq ?_
    refine WP.run [] [2] (fun _ => [(2, .int .i64 0)]) (fun _ => [(b1, .cells #[.int .i64 r3] 30 (0, 0))]) (fun _ => []) (fun _ => by kernel_rfl) (fun _ => ?_)
    refine WP.keep [false] (by kernel_rfl : _ = []) ?_
    obtain rfl := Option.some.inj hM
    exact WP.ret [] [] (.int .i64 0) (by kernel_rfl) (fun w' hw => ⟨rfl, hw.pick [] rfl⟩)

end Go.Proofs.YtbodofjnfmjbpaaGreatDoor

namespace Go.Proofs.YtbodofjnfmjbpaaGreatDoor
open Go Eng
set_option linter.unusedVariables false
set_option linter.unusedSimpArgs false

/-! ### gangway/ether.Parse: function 50 -/
def ether_Parse.f (k : Nat) (a0 : ByteArray) : Option (api_Frame × Int) :=
  bif decide ((a0.size : Int) > 1600) then
    some ((api_Frame.mk 0 0 (api_Tag.mk false 0 false 0) 0 (⟨#[]⟩ : ByteArray)), 41)
  else
    (ether_reader_frame.f k (ether_reader.mk a0 0)).bind fun (r4, r5, r6) =>
    match r5 with
    | none =>
      (errors_Is.f 40).bind fun r9 =>
      bif r9 then
        some ((api_Frame.mk 0 0 (api_Tag.mk false 0 false 0) 0 (⟨#[]⟩ : ByteArray)), 40)
      else
        some (r4, 0)
    | some (q12, q13) =>
      (errors_Is_1.f q12 q13 40).bind fun r14 =>
      bif r14 then
        some ((api_Frame.mk 0 0 (api_Tag.mk false 0 false 0) 0 (⟨#[]⟩ : ByteArray)), 40)
      else
        (ether_number.f q12 q13).bind fun r17 =>
        some ((api_Frame.mk 0 0 (api_Tag.mk false 0 false 0) 0 (⟨#[]⟩ : ByteArray)), r17)

set_option maxRecDepth 100000 in
theorem ether_Parse_calls (k : Nat) (a0 : ByteArray) (r : api_Frame × Int) (h : ether_Parse.f k a0 = some r) : Pure Tryz.prog Glob 50 #[.string a0] (.tuple #[.agg #[.int .u64 r.1.Dst, .int .u64 r.1.Src, .bool r.1.Tag.Has, .int .i64 r.1.Tag.Pri, .bool r.1.Tag.Dei, .int .i64 r.1.Tag.Vid, .int .i64 r.1.Type_, .string r.1.Body], .int .i64 r.2]) := by
  intro w Z hS
  refine calls_of (args := [.string a0]) (L := [(0, .string a0)]) (N := 31) (S := Sat w Z [] [] Glob) Tryz.func50 rfl rfl (Nat.le_of_ble_eq_true rfl) rfl hS ?_
  have hM := h
  clear h hS
  unfold ether_Parse.f at hM
  refine WP.seq ?_
  refine WP.run [] [0, 2, 3] (fun b1 => [(0, .string a0), (2, .pointer (some ⟨b1, 0, none⟩)), (3, .int .i64 0)]) (fun b1 => [(b1, .cells #[.int .u64 0, .int .u64 0, .bool false, .int .i64 0, .bool false, .int .i64 0, .int .i64 0, .string (⟨#[]⟩ : ByteArray)] 29 (0, 0))]) (fun b1 => []) (fun b1 => by kernel_rfl) (fun b1 => ?_)
  refine WP.seq ?_
  refine WP.seq ?_
  refine WP.run [] [0, 2, 3, 9] (fun _ => [(0, .string a0), (2, .pointer (some ⟨b1, 0, none⟩)), (3, .int .i64 0), (9, .bool (decide ((a0.size : Int) > 1600)))]) (fun _ => [(b1, .cells #[.int .u64 0, .int .u64 0, .bool false, .int .i64 0, .bool false, .int .i64 0, .int .i64 0, .string (⟨#[]⟩ : ByteArray)] 29 (0, 0))]) (fun _ => []) (fun _ => by kernel_rfl) (fun _ => ?_)
  refine WP.cond (decide ((a0.size : Int) > 1600)) rfl rfl (fun c2 => ?_) (fun c2 => ?_)
  · replace hM := cond_t hM c2
    refine WP.seq ?_
    refine WP.run [0, 0, 0, 0, 0, 0, 0, 0] [0, 2, 3] (fun _ => [(0, .string a0), (2, .pointer (some ⟨b1, 0, none⟩)), (3, .int .i64 41)]) (fun _ => [(b1, .cells #[.int .u64 0, .int .u64 0, .bool false, .int .i64 0, .bool false, .int .i64 0, .int .i64 0, .string (⟨#[]⟩ : ByteArray)] 29 (0, 0))]) (fun _ => [b1, b1, b1, b1, b1, b1, b1, b1]) (fun _ => by kernel_rfl) (fun _ => ?_)
    obtain rfl := Option.some.inj hM
    exact WP.ret [0, 0, 0, 0, 0, 0, 0, 0] [b1, b1, b1, b1, b1, b1, b1, b1] (.tuple #[.agg #[.int .u64 0, .int .u64 0, .bool false, .int .i64 0, .bool false, .int .i64 0, .int .i64 0, .string (⟨#[]⟩ : ByteArray)], .int .i64 41]) (by kernel_rfl) (fun w' hw => ⟨rfl, hw.pick [] rfl⟩)
  · replace hM := cond_f hM c2
    refine WP.skip ?_
    refine WP.seq ?_
    refine WP.run [] [2, 3, 4] (fun b3 => [(2, .pointer (some ⟨b1, 0, none⟩)), (3, .int .i64 0), (4, .pointer (some ⟨b3, 0, none⟩))]) (fun b3 => [(b1, .cells #[.int .u64 0, .int .u64 0, .bool false, .int .i64 0, .bool false, .int .i64 0, .int .i64 0, .string (⟨#[]⟩ : ByteArray)] 29 (0, 0)), (b3, .cells #[.string a0, .int .i64 0] 132 (0, 0))]) (fun b3 => []) (fun b3 => by kernel_rfl) (fun b3 => ?_)
    refine WP.seq ?_
    refine WP.region ?_
    refine WL.run 1 [] [2, 3, 15] (fun _ => [(2, .pointer (some ⟨b1, 0, none⟩)), (3, .int .i64 0), (15, .pointer (some ⟨b3, 0, none⟩))]) (fun _ => [(b1, .cells #[.int .u64 0, .int .u64 0, .bool false, .int .i64 0, .bool false, .int .i64 0, .int .i64 0, .string (⟨#[]⟩ : ByteArray)] 29 (0, 0)), (b3, .cells #[.string a0, .int .i64 0] 132 (0, 0))]) (fun _ => []) (fun _ => by kernel_rfl) (fun _ => ?_)
    obtain ⟨⟨r4, r5, r6⟩, h7, hM⟩ := bind_some hM
    dsimp only at hM
    refine WL.callE (X := Unit) [] [] [false, true] (fun _ => _) (ether_reader_frame_calls k b3 (ether_reader.mk a0 0) _ h7) rfl rfl (fun _ h => h) (by kernel_rfl) (by kernel_rfl) (fun _ => rfl) (fun _ => ?_)
    refine WL.run 6 [2, 2, 2, 2, 2, 2, 2, 2] [2, 3, 5, 6] (fun b8 => [(2, .pointer (some ⟨b1, 0, none⟩)), (3, .int .i64 0), (5, .pointer (some ⟨b8, 0, none⟩)), (6, Un1.v r5)]) (fun b8 => [(b3, .cells #[.string r6.s, .int .i64 r6.at_] 132 (0, 0)), (b1, .cells #[.int .u64 0, .int .u64 0, .bool false, .int .i64 0, .bool false, .int .i64 0, .int .i64 0, .string (⟨#[]⟩ : ByteArray)] 29 (0, 0)), (b8, .cells #[.int .u64 r4.Dst, .int .u64 r4.Src, .bool r4.Tag.Has, .int .i64 r4.Tag.Pri, .bool r4.Tag.Dei, .int .i64 r4.Tag.Vid, .int .i64 r4.Type_, .string r4.Body] 29 (0, 0))]) (fun b8 => [b8, b8, b8, b8, b8, b8, b8, b8]) (fun b8 => by kernel_rfl) (fun b8 => ?_)
    refine WP.done ?_
    refine WP.keep [false, true, true] (by kernel_rfl : _ = [(b1, .cells #[.int .u64 0, .int .u64 0, .bool false, .int .i64 0, .bool false, .int .i64 0, .int .i64 0, .string (⟨#[]⟩ : ByteArray)] 29 (0, 0)), (b8, .cells #[.int .u64 r4.Dst, .int .u64 r4.Src, .bool r4.Tag.Has, .int .i64 r4.Tag.Pri, .bool r4.Tag.Dei, .int .i64 r4.Tag.Vid, .int .i64 r4.Type_, .string r4.Body] 29 (0, 0))]) ?_
    refine WP.seq ?_
    refine WP.block ?_
    refine WP.seq ?_
    refine WP.region ?_
    refine WL.run 2 [] [2, 3, 5, 6, 20, 21] (fun _ => [(2, .pointer (some ⟨b1, 0, none⟩)), (3, .int .i64 0), (5, .pointer (some ⟨b8, 0, none⟩)), (6, Un1.v r5), (20, Un1.v r5), (21, .iface 30 (.int .i64 40))]) (fun _ => [(b1, .cells #[.int .u64 0, .int .u64 0, .bool false, .int .i64 0, .bool false, .int .i64 0, .int .i64 0, .string (⟨#[]⟩ : ByteArray)] 29 (0, 0)), (b8, .cells #[.int .u64 r4.Dst, .int .u64 r4.Src, .bool r4.Tag.Has, .int .i64 r4.Tag.Pri, .bool r4.Tag.Dei, .int .i64 r4.Tag.Vid, .int .i64 r4.Type_, .string r4.Body] 29 (0, 0))]) (fun _ => []) (fun _ => by kernel_rfl) (fun _ => ?_)
    rcases r5 with _ | ⟨q12, q13⟩
    · dsimp only at hM
      obtain ⟨r9, h10, hM⟩ := bind_some hM
      refine WL.callP [] [] (errors_Is_calls 40 _ h10) (fun _ h => h) (by kernel_rfl) (by kernel_rfl) rfl ?_
      refine WL.run 1 [] [2, 3, 5, 6, 19] (fun _ => [(2, .pointer (some ⟨b1, 0, none⟩)), (3, .int .i64 0), (5, .pointer (some ⟨b8, 0, none⟩)), (6, .nilIface), (19, .bool r9)]) (fun _ => [(b1, .cells #[.int .u64 0, .int .u64 0, .bool false, .int .i64 0, .bool false, .int .i64 0, .int .i64 0, .string (⟨#[]⟩ : ByteArray)] 29 (0, 0)), (b8, .cells #[.int .u64 r4.Dst, .int .u64 r4.Src, .bool r4.Tag.Has, .int .i64 r4.Tag.Pri, .bool r4.Tag.Dei, .int .i64 r4.Tag.Vid, .int .i64 r4.Type_, .string r4.Body] 29 (0, 0))]) (fun _ => []) (fun _ => by kernel_rfl) (fun _ => ?_)
      refine WP.done ?_
      refine WP.cond r9 rfl rfl (fun c11 => ?_) (fun c11 => ?_)
      · replace hM := cond_t hM c11
        refine WP.seq ?_
        refine WP.run [0, 0, 0, 0, 0, 0, 0, 0] [2, 3, 5] (fun _ => [(2, .pointer (some ⟨b1, 0, none⟩)), (3, .int .i64 40), (5, .pointer (some ⟨b8, 0, none⟩))]) (fun _ => [(b1, .cells #[.int .u64 0, .int .u64 0, .bool false, .int .i64 0, .bool false, .int .i64 0, .int .i64 0, .string (⟨#[]⟩ : ByteArray)] 29 (0, 0)), (b8, .cells #[.int .u64 r4.Dst, .int .u64 r4.Src, .bool r4.Tag.Has, .int .i64 r4.Tag.Pri, .bool r4.Tag.Dei, .int .i64 r4.Tag.Vid, .int .i64 r4.Type_, .string r4.Body] 29 (0, 0))]) (fun _ => [b1, b1, b1, b1, b1, b1, b1, b1]) (fun _ => by kernel_rfl) (fun _ => ?_)
        obtain rfl := Option.some.inj hM
        exact WP.ret [0, 0, 0, 0, 0, 0, 0, 0] [b1, b1, b1, b1, b1, b1, b1, b1] (.tuple #[.agg #[.int .u64 0, .int .u64 0, .bool false, .int .i64 0, .bool false, .int .i64 0, .int .i64 0, .string (⟨#[]⟩ : ByteArray)], .int .i64 40]) (by kernel_rfl) (fun w' hw => ⟨rfl, hw.pick [] rfl⟩)
      · replace hM := cond_f hM c11
        refine WP.seq ?_
        refine WP.run [] [2, 3, 5, 6, 24] (fun _ => [(2, .pointer (some ⟨b1, 0, none⟩)), (3, .int .i64 0), (5, .pointer (some ⟨b8, 0, none⟩)), (6, .nilIface), (24, .bool false)]) (fun _ => [(b1, .cells #[.int .u64 0, .int .u64 0, .bool false, .int .i64 0, .bool false, .int .i64 0, .int .i64 0, .string (⟨#[]⟩ : ByteArray)] 29 (0, 0)), (b8, .cells #[.int .u64 r4.Dst, .int .u64 r4.Src, .bool r4.Tag.Has, .int .i64 r4.Tag.Pri, .bool r4.Tag.Dei, .int .i64 r4.Tag.Vid, .int .i64 r4.Type_, .string r4.Body] 29 (0, 0))]) (fun _ => []) (fun _ => by kernel_rfl) (fun _ => ?_)
        refine WP.no rfl rfl ?_
        refine WP.skip ?_
        refine WP.leave ?_
        refine WP.seq ?_
        refine WP.run [1, 1, 1, 1, 1, 1, 1, 1, 0, 0, 0, 0, 0, 0, 0, 0] [2, 3] (fun _ => [(2, .pointer (some ⟨b1, 0, none⟩)), (3, .int .i64 0)]) (fun _ => [(b1, .cells #[.int .u64 r4.Dst, .int .u64 r4.Src, .bool r4.Tag.Has, .int .i64 r4.Tag.Pri, .bool r4.Tag.Dei, .int .i64 r4.Tag.Vid, .int .i64 r4.Type_, .string r4.Body] 29 (0, 0)), (b8, .cells #[.int .u64 r4.Dst, .int .u64 r4.Src, .bool r4.Tag.Has, .int .i64 r4.Tag.Pri, .bool r4.Tag.Dei, .int .i64 r4.Tag.Vid, .int .i64 r4.Type_, .string r4.Body] 29 (0, 0))]) (fun _ => [b1, b1, b1, b1, b1, b1, b1, b1, b8, b8, b8, b8, b8, b8, b8, b8]) (fun _ => by kernel_rfl) (fun _ => ?_)
        refine WP.keep [true, false] (by kernel_rfl : _ = [(b1, .cells #[.int .u64 r4.Dst, .int .u64 r4.Src, .bool r4.Tag.Has, .int .i64 r4.Tag.Pri, .bool r4.Tag.Dei, .int .i64 r4.Tag.Vid, .int .i64 r4.Type_, .string r4.Body] 29 (0, 0))]) ?_
        obtain rfl := Option.some.inj hM
        exact WP.ret [0, 0, 0, 0, 0, 0, 0, 0] [b1, b1, b1, b1, b1, b1, b1, b1] (.tuple #[.agg #[.int .u64 r4.Dst, .int .u64 r4.Src, .bool r4.Tag.Has, .int .i64 r4.Tag.Pri, .bool r4.Tag.Dei, .int .i64 r4.Tag.Vid, .int .i64 r4.Type_, .string r4.Body], .int .i64 0]) (by kernel_rfl) (fun w' hw => ⟨rfl, hw.pick [] rfl⟩)
    · dsimp only at hM
      obtain ⟨r14, h15, hM⟩ := bind_some hM
      refine WL.callP [] [] (errors_Is_1_calls q12 q13 40 _ h15) (fun _ h => h) (by kernel_rfl) (by kernel_rfl) rfl ?_
      refine WL.run 1 [] [2, 3, 5, 6, 19] (fun _ => [(2, .pointer (some ⟨b1, 0, none⟩)), (3, .int .i64 0), (5, .pointer (some ⟨b8, 0, none⟩)), (6, .iface 183 (.agg #[.string q12, .iface 30 (.int .i64 q13)])), (19, .bool r14)]) (fun _ => [(b1, .cells #[.int .u64 0, .int .u64 0, .bool false, .int .i64 0, .bool false, .int .i64 0, .int .i64 0, .string (⟨#[]⟩ : ByteArray)] 29 (0, 0)), (b8, .cells #[.int .u64 r4.Dst, .int .u64 r4.Src, .bool r4.Tag.Has, .int .i64 r4.Tag.Pri, .bool r4.Tag.Dei, .int .i64 r4.Tag.Vid, .int .i64 r4.Type_, .string r4.Body] 29 (0, 0))]) (fun _ => []) (fun _ => by kernel_rfl) (fun _ => ?_)
      refine WP.done ?_
      refine WP.cond r14 rfl rfl (fun c16 => ?_) (fun c16 => ?_)
      · replace hM := cond_t hM c16
        refine WP.seq ?_
        refine WP.run [0, 0, 0, 0, 0, 0, 0, 0] [2, 3, 5] (fun _ => [(2, .pointer (some ⟨b1, 0, none⟩)), (3, .int .i64 40), (5, .pointer (some ⟨b8, 0, none⟩))]) (fun _ => [(b1, .cells #[.int .u64 0, .int .u64 0, .bool false, .int .i64 0, .bool false, .int .i64 0, .int .i64 0, .string (⟨#[]⟩ : ByteArray)] 29 (0, 0)), (b8, .cells #[.int .u64 r4.Dst, .int .u64 r4.Src, .bool r4.Tag.Has, .int .i64 r4.Tag.Pri, .bool r4.Tag.Dei, .int .i64 r4.Tag.Vid, .int .i64 r4.Type_, .string r4.Body] 29 (0, 0))]) (fun _ => [b1, b1, b1, b1, b1, b1, b1, b1]) (fun _ => by kernel_rfl) (fun _ => ?_)
        obtain rfl := Option.some.inj hM
        exact WP.ret [0, 0, 0, 0, 0, 0, 0, 0] [b1, b1, b1, b1, b1, b1, b1, b1] (.tuple #[.agg #[.int .u64 0, .int .u64 0, .bool false, .int .i64 0, .bool false, .int .i64 0, .int .i64 0, .string (⟨#[]⟩ : ByteArray)], .int .i64 40]) (by kernel_rfl) (fun w' hw => ⟨rfl, hw.pick [] rfl⟩)
      · replace hM := cond_f hM c16
        refine WP.seq ?_
        refine WP.run [] [2, 3, 5, 6, 24] (fun _ => [(2, .pointer (some ⟨b1, 0, none⟩)), (3, .int .i64 0), (5, .pointer (some ⟨b8, 0, none⟩)), (6, .iface 183 (.agg #[.string q12, .iface 30 (.int .i64 q13)])), (24, .bool true)]) (fun _ => [(b1, .cells #[.int .u64 0, .int .u64 0, .bool false, .int .i64 0, .bool false, .int .i64 0, .int .i64 0, .string (⟨#[]⟩ : ByteArray)] 29 (0, 0)), (b8, .cells #[.int .u64 r4.Dst, .int .u64 r4.Src, .bool r4.Tag.Has, .int .i64 r4.Tag.Pri, .bool r4.Tag.Dei, .int .i64 r4.Tag.Vid, .int .i64 r4.Type_, .string r4.Body] 29 (0, 0))]) (fun _ => []) (fun _ => by kernel_rfl) (fun _ => ?_)
        refine WP.yes rfl rfl ?_
        refine WP.seq ?_
        refine WP.region ?_
        refine WL.run 2 [] [2, 3, 5, 27, 28] (fun _ => [(2, .pointer (some ⟨b1, 0, none⟩)), (3, .int .i64 0), (5, .pointer (some ⟨b8, 0, none⟩)), (27, .agg #[.int .u64 0, .int .u64 0, .bool false, .int .i64 0, .bool false, .int .i64 0, .int .i64 0, .string (⟨#[]⟩ : ByteArray)]), (28, .iface 183 (.agg #[.string q12, .iface 30 (.int .i64 q13)]))]) (fun _ => [(b1, .cells #[.int .u64 0, .int .u64 0, .bool false, .int .i64 0, .bool false, .int .i64 0, .int .i64 0, .string (⟨#[]⟩ : ByteArray)] 29 (0, 0)), (b8, .cells #[.int .u64 r4.Dst, .int .u64 r4.Src, .bool r4.Tag.Has, .int .i64 r4.Tag.Pri, .bool r4.Tag.Dei, .int .i64 r4.Tag.Vid, .int .i64 r4.Type_, .string r4.Body] 29 (0, 0))]) (fun _ => []) (fun _ => by kernel_rfl) (fun _ => ?_)
        obtain ⟨r17, h18, hM⟩ := bind_some hM
        refine WL.callP [] [] (ether_number_calls q12 q13 _ h18) (fun _ h => h) (by kernel_rfl) (by kernel_rfl) rfl ?_
        refine WL.run 2 [0, 0, 0, 0, 0, 0, 0, 0] [2, 3, 5] (fun _ => [(2, .pointer (some ⟨b1, 0, none⟩)), (3, .int .i64 r17), (5, .pointer (some ⟨b8, 0, none⟩))]) (fun _ => [(b1, .cells #[.int .u64 0, .int .u64 0, .bool false, .int .i64 0, .bool false, .int .i64 0, .int .i64 0, .string (⟨#[]⟩ : ByteArray)] 29 (0, 0)), (b8, .cells #[.int .u64 r4.Dst, .int .u64 r4.Src, .bool r4.Tag.Has, .int .i64 r4.Tag.Pri, .bool r4.Tag.Dei, .int .i64 r4.Tag.Vid, .int .i64 r4.Type_, .string r4.Body] 29 (0, 0))]) (fun _ => [b1, b1, b1, b1, b1, b1, b1, b1]) (fun _ => by kernel_rfl) (fun _ => ?_)
        refine WP.done ?_
        obtain rfl := Option.some.inj hM
        exact WP.ret [0, 0, 0, 0, 0, 0, 0, 0] [b1, b1, b1, b1, b1, b1, b1, b1] (.tuple #[.agg #[.int .u64 0, .int .u64 0, .bool false, .int .i64 0, .bool false, .int .i64 0, .int .i64 0, .string (⟨#[]⟩ : ByteArray)], .int .i64 r17]) (by kernel_rfl) (fun w' hw => ⟨rfl, hw.pick [] rfl⟩)

end Go.Proofs.YtbodofjnfmjbpaaGreatDoor

namespace Go.Proofs.YtbodofjnfmjbpaaGreatDoor
open Go Eng
set_option linter.unusedVariables false
set_option linter.unusedSimpArgs false

/-! ### gangway/gangwayref04.tag: function 72 -/
def gangwayref04_tag.f (a0 : api_Tag) : Option (Bool) :=
  bif a0.Has then
    some ((((decide (a0.Pri ≥ 0)) && (decide (a0.Pri ≤ 7))) && (decide (a0.Vid ≥ 0))) && (decide (a0.Vid ≤ 4095)))
  else
    some (((a0.Pri == 0) && (!a0.Dei)) && (a0.Vid == 0))

set_option maxRecDepth 100000 in
theorem gangwayref04_tag_calls (a0 : api_Tag) (r : Bool) (h : gangwayref04_tag.f a0 = some r) : Pure Tryz.prog Glob 72 #[.agg #[.bool a0.Has, .int .i64 a0.Pri, .bool a0.Dei, .int .i64 a0.Vid]] (.bool r) := by
  intro w Z hS
  refine calls_of (args := [.agg #[.bool a0.Has, .int .i64 a0.Pri, .bool a0.Dei, .int .i64 a0.Vid]]) (L := [(0, .agg #[.bool a0.Has, .int .i64 a0.Pri, .bool a0.Dei, .int .i64 a0.Vid])]) (N := 36) (S := Sat w Z [] [] Glob) Tryz.func72 rfl rfl (Nat.le_of_ble_eq_true rfl) rfl hS ?_
  have hM := h
  clear h hS
  unfold gangwayref04_tag.f at hM
  refine WP.seq ?_
  refine WP.run [] [1, 2] (fun b1 => [(1, .pointer (some ⟨b1, 0, none⟩)), (2, .bool false)]) (fun b1 => [(b1, .cells #[.bool a0.Has, .int .i64 a0.Pri, .bool a0.Dei, .int .i64 a0.Vid] 27 (0, 0))]) (fun b1 => []) (fun b1 => by kernel_rfl) (fun b1 => ?_)
  refine WP.seq ?_
  refine WP.seq ?_
  refine WP.run [0] [1, 2, 4] (fun _ => [(1, .pointer (some ⟨b1, 0, none⟩)), (2, .bool false), (4, .bool a0.Has)]) (fun _ => [(b1, .cells #[.bool a0.Has, .int .i64 a0.Pri, .bool a0.Dei, .int .i64 a0.Vid] 27 (0, 0))]) (fun _ => [b1]) (fun _ => by kernel_rfl) (fun _ => ?_)
  refine WP.cond a0.Has rfl rfl (fun c2 => ?_) (fun c2 => ?_)
  · replace hM := cond_t hM c2
    refine WP.seq ?_
    refine WP.region ?_
    refine WL.run 4 [0] [1, 2, 8] (fun _ => [(1, .pointer (some ⟨b1, 0, none⟩)), (2, .bool false), (8, .bool (decide (a0.Pri ≥ 0)))]) (fun _ => [(b1, .cells #[.bool a0.Has, .int .i64 a0.Pri, .bool a0.Dei, .int .i64 a0.Vid] 27 (0, 0))]) (fun _ => [b1]) (fun _ => by kernel_rfl) (fun _ => ?_)
    refine WL.sub [1, 2, 8] (L' := [(1, .pointer (some ⟨b1, 0, none⟩)), (2, .bool false), (8, .bool (decide (a0.Pri ≥ 0)))]) (by kernel_rfl) ?_
    refine WL.both (fun b' => [(1, .pointer (some ⟨b1, 0, none⟩)), (2, .bool false), (8, .bool b')]) (decide (a0.Pri ≥ 0)) 4 [0] [] [1, 2, 12] (fun b' => [(1, .pointer (some ⟨b1, 0, none⟩)), (2, .bool false), (12, .bool (b' && (decide (a0.Pri ≤ 7))))]) [b1] [] (fun _ => by kernel_rfl) (fun _ => by kernel_rfl) ?_
    refine WL.run 1 [] [1, 2, 13] (fun _ => [(1, .pointer (some ⟨b1, 0, none⟩)), (2, .bool false), (13, .bool ((decide (a0.Pri ≥ 0)) && (decide (a0.Pri ≤ 7))))]) (fun _ => [(b1, .cells #[.bool a0.Has, .int .i64 a0.Pri, .bool a0.Dei, .int .i64 a0.Vid] 27 (0, 0))]) (fun _ => []) (fun _ => by kernel_rfl) (fun _ => ?_)
    refine WL.sub [1, 2, 13] (L' := [(1, .pointer (some ⟨b1, 0, none⟩)), (2, .bool false), (13, .bool ((decide (a0.Pri ≥ 0)) && (decide (a0.Pri ≤ 7))))]) (by kernel_rfl) ?_
    refine WL.both (fun b' => [(1, .pointer (some ⟨b1, 0, none⟩)), (2, .bool false), (13, .bool b')]) ((decide (a0.Pri ≥ 0)) && (decide (a0.Pri ≤ 7))) 4 [0] [] [1, 2, 17] (fun b' => [(1, .pointer (some ⟨b1, 0, none⟩)), (2, .bool false), (17, .bool (b' && (decide (a0.Vid ≥ 0))))]) [b1] [] (fun _ => by kernel_rfl) (fun _ => by kernel_rfl) ?_
    refine WL.run 1 [] [1, 2, 18] (fun _ => [(1, .pointer (some ⟨b1, 0, none⟩)), (2, .bool false), (18, .bool (((decide (a0.Pri ≥ 0)) && (decide (a0.Pri ≤ 7))) && (decide (a0.Vid ≥ 0))))]) (fun _ => [(b1, .cells #[.bool a0.Has, .int .i64 a0.Pri, .bool a0.Dei, .int .i64 a0.Vid] 27 (0, 0))]) (fun _ => []) (fun _ => by kernel_rfl) (fun _ => ?_)
    refine WL.sub [1, 2, 18] (L' := [(1, .pointer (some ⟨b1, 0, none⟩)), (2, .bool false), (18, .bool (((decide (a0.Pri ≥ 0)) && (decide (a0.Pri ≤ 7))) && (decide (a0.Vid ≥ 0))))]) (by kernel_rfl) ?_
    refine WL.both (fun b' => [(1, .pointer (some ⟨b1, 0, none⟩)), (2, .bool false), (18, .bool b')]) (((decide (a0.Pri ≥ 0)) && (decide (a0.Pri ≤ 7))) && (decide (a0.Vid ≥ 0))) 4 [0] [] [1, 2, 22] (fun b' => [(1, .pointer (some ⟨b1, 0, none⟩)), (2, .bool false), (22, .bool (b' && (decide (a0.Vid ≤ 4095))))]) [b1] [] (fun _ => by kernel_rfl) (fun _ => by kernel_rfl) ?_
    refine WL.run 1 [] [1, 2] (fun _ => [(1, .pointer (some ⟨b1, 0, none⟩)), (2, .bool ((((decide (a0.Pri ≥ 0)) && (decide (a0.Pri ≤ 7))) && (decide (a0.Vid ≥ 0))) && (decide (a0.Vid ≤ 4095))))]) (fun _ => [(b1, .cells #[.bool a0.Has, .int .i64 a0.Pri, .bool a0.Dei, .int .i64 a0.Vid] 27 (0, 0))]) (fun _ => []) (fun _ => by kernel_rfl) (fun _ => ?_)
    refine WP.done ?_
    obtain rfl := Option.some.inj hM
    exact WP.ret [] [] (.bool ((((decide (a0.Pri ≥ 0)) && (decide (a0.Pri ≤ 7))) && (decide (a0.Vid ≥ 0))) && (decide (a0.Vid ≤ 4095)))) (by kernel_rfl) (fun w' hw => ⟨rfl, hw.pick [] rfl⟩)
  · replace hM := cond_f hM c2
    refine WP.skip ?_
    refine WP.seq ?_
    refine WP.region ?_
    refine WL.run 4 [0] [1, 2, 26] (fun _ => [(1, .pointer (some ⟨b1, 0, none⟩)), (2, .bool false), (26, .bool (a0.Pri == 0))]) (fun _ => [(b1, .cells #[.bool a0.Has, .int .i64 a0.Pri, .bool a0.Dei, .int .i64 a0.Vid] 27 (0, 0))]) (fun _ => [b1]) (fun _ => by kernel_rfl) (fun _ => ?_)
    refine WL.sub [1, 2, 26] (L' := [(1, .pointer (some ⟨b1, 0, none⟩)), (2, .bool false), (26, .bool (a0.Pri == 0))]) (by kernel_rfl) ?_
    refine WL.both (fun b' => [(1, .pointer (some ⟨b1, 0, none⟩)), (2, .bool false), (26, .bool b')]) (a0.Pri == 0) 4 [0] [] [1, 2, 30] (fun b' => [(1, .pointer (some ⟨b1, 0, none⟩)), (2, .bool false), (30, .bool (b' && (!a0.Dei)))]) [b1] [] (fun _ => by kernel_rfl) (fun _ => by kernel_rfl) ?_
    refine WL.run 1 [] [1, 2, 31] (fun _ => [(1, .pointer (some ⟨b1, 0, none⟩)), (2, .bool false), (31, .bool ((a0.Pri == 0) && (!a0.Dei)))]) (fun _ => [(b1, .cells #[.bool a0.Has, .int .i64 a0.Pri, .bool a0.Dei, .int .i64 a0.Vid] 27 (0, 0))]) (fun _ => []) (fun _ => by kernel_rfl) (fun _ => ?_)
    refine WL.sub [1, 2, 31] (L' := [(1, .pointer (some ⟨b1, 0, none⟩)), (2, .bool false), (31, .bool ((a0.Pri == 0) && (!a0.Dei)))]) (by kernel_rfl) ?_
    refine WL.both (fun b' => [(1, .pointer (some ⟨b1, 0, none⟩)), (2, .bool false), (31, .bool b')]) ((a0.Pri == 0) && (!a0.Dei)) 4 [0] [] [2, 35] (fun b' => [(2, .bool false), (35, .bool (b' && (a0.Vid == 0)))]) [b1] [] (fun _ => by kernel_rfl) (fun _ => by kernel_rfl) ?_
    refine WL.run 1 [] [2] (fun _ => [(2, .bool (((a0.Pri == 0) && (!a0.Dei)) && (a0.Vid == 0)))]) (fun _ => [(b1, .cells #[.bool a0.Has, .int .i64 a0.Pri, .bool a0.Dei, .int .i64 a0.Vid] 27 (0, 0))]) (fun _ => []) (fun _ => by kernel_rfl) (fun _ => ?_)
    refine WP.done ?_
    refine WP.keep [false] (by kernel_rfl : _ = []) ?_
    obtain rfl := Option.some.inj hM
    exact WP.ret [] [] (.bool (((a0.Pri == 0) && (!a0.Dei)) && (a0.Vid == 0))) (by kernel_rfl) (fun w' hw => ⟨rfl, hw.pick [] rfl⟩)

end Go.Proofs.YtbodofjnfmjbpaaGreatDoor

namespace Go.Proofs.YtbodofjnfmjbpaaGreatDoor
open Go Eng
set_option linter.unusedVariables false
set_option linter.unusedSimpArgs false

/-! ### gangway/gangwayref04.Check: function 42 -/
def gangwayref04_Check.k3 (x12 : Int) : Option (Int) :=
  bif decide (x12 > 1600) then
    some 41
  else
    some 0

def gangwayref04_Check.k2 (a0 : api_Frame) (x8 : Bool) : Option (Int) :=
  bif x8 then
    some 41
  else
    bif ((a0.Type_ == 0) && (decide ((a0.Body.size : Int) > 1500))) then
      some 40
    else
      bif a0.Tag.Has then
        gangwayref04_Check.k3 (i64 ((i64 (14 + (a0.Body.size : Int))) + 4))
      else
        gangwayref04_Check.k3 (i64 (14 + (a0.Body.size : Int)))

def gangwayref04_Check.k1 (a0 : api_Frame) (x5 : Bool) : Option (Int) :=
  bif x5 then
    some 41
  else
    bif (a0.Type_ != 0) then
      gangwayref04_Check.k2 a0 (((decide (a0.Type_ < 1536)) || (decide (a0.Type_ > 65535))) || (a0.Type_ == 33024))
    else
      gangwayref04_Check.k2 a0 false

def gangwayref04_Check.f (a0 : api_Frame) : Option (Int) :=
  bif (((Int.fdiv a0.Dst 281474976710656) != 0) || ((Int.fdiv a0.Src 281474976710656) != 0)) then
    gangwayref04_Check.k1 a0 true
  else
    (gangwayref04_tag.f a0.Tag).bind fun r3 =>
    gangwayref04_Check.k1 a0 (!r3)

set_option maxRecDepth 100000 in
theorem gangwayref04_Check_calls (a0 : api_Frame) (r : Int) (h : gangwayref04_Check.f a0 = some r) : Pure Tryz.prog Glob 42 #[.agg #[.int .u64 a0.Dst, .int .u64 a0.Src, .bool a0.Tag.Has, .int .i64 a0.Tag.Pri, .bool a0.Tag.Dei, .int .i64 a0.Tag.Vid, .int .i64 a0.Type_, .string a0.Body]] (.int .i64 r) := by
  intro w Z hS
  refine calls_of (args := [.agg #[.int .u64 a0.Dst, .int .u64 a0.Src, .bool a0.Tag.Has, .int .i64 a0.Tag.Pri, .bool a0.Tag.Dei, .int .i64 a0.Tag.Vid, .int .i64 a0.Type_, .string a0.Body]]) (L := [(0, .agg #[.int .u64 a0.Dst, .int .u64 a0.Src, .bool a0.Tag.Has, .int .i64 a0.Tag.Pri, .bool a0.Tag.Dei, .int .i64 a0.Tag.Vid, .int .i64 a0.Type_, .string a0.Body])]) (N := 58) (S := Sat w Z [] [] Glob) Tryz.func42 rfl rfl (Nat.le_of_ble_eq_true rfl) rfl hS ?_
  have hM := h
  clear h hS
  unfold gangwayref04_Check.f at hM
  refine WP.seq ?_
  refine WP.run [] [1, 2] (fun b1 => [(1, .pointer (some ⟨b1, 0, none⟩)), (2, .int .i64 0)]) (fun b1 => [(b1, .cells #[.int .u64 a0.Dst, .int .u64 a0.Src, .bool a0.Tag.Has, .int .i64 a0.Tag.Pri, .bool a0.Tag.Dei, .int .i64 a0.Tag.Vid, .int .i64 a0.Type_, .string a0.Body] 29 (0, 0))]) (fun b1 => []) (fun b1 => by kernel_rfl) (fun b1 => ?_)
  refine WP.seq ?_
  refine WP.seq ?_
  refine WP.region ?_
  refine WL.run 5 [0] [1, 2, 8] (fun _ => [(1, .pointer (some ⟨b1, 0, none⟩)), (2, .int .i64 0), (8, .bool ((Int.fdiv a0.Dst 281474976710656) != 0))]) (fun _ => [(b1, .cells #[.int .u64 a0.Dst, .int .u64 a0.Src, .bool a0.Tag.Has, .int .i64 a0.Tag.Pri, .bool a0.Tag.Dei, .int .i64 a0.Tag.Vid, .int .i64 a0.Type_, .string a0.Body] 29 (0, 0))]) (fun _ => [b1]) (fun _ => by kernel_rfl) (fun _ => ?_)
  refine WL.sub [1, 2, 8] (L' := [(1, .pointer (some ⟨b1, 0, none⟩)), (2, .int .i64 0), (8, .bool ((Int.fdiv a0.Dst 281474976710656) != 0))]) (by kernel_rfl) ?_
  refine WL.both (fun b' => [(1, .pointer (some ⟨b1, 0, none⟩)), (2, .int .i64 0), (8, .bool b')]) ((Int.fdiv a0.Dst 281474976710656) != 0) 5 [] [0] [1, 2, 13] (fun b' => [(1, .pointer (some ⟨b1, 0, none⟩)), (2, .int .i64 0), (13, .bool (b' || ((Int.fdiv a0.Src 281474976710656) != 0)))]) [] [b1] (fun _ => by kernel_rfl) (fun _ => by kernel_rfl) ?_
  refine WL.run 1 [] [1, 2, 14] (fun _ => [(1, .pointer (some ⟨b1, 0, none⟩)), (2, .int .i64 0), (14, .bool (((Int.fdiv a0.Dst 281474976710656) != 0) || ((Int.fdiv a0.Src 281474976710656) != 0)))]) (fun _ => [(b1, .cells #[.int .u64 a0.Dst, .int .u64 a0.Src, .bool a0.Tag.Has, .int .i64 a0.Tag.Pri, .bool a0.Tag.Dei, .int .i64 a0.Tag.Vid, .int .i64 a0.Type_, .string a0.Body] 29 (0, 0))]) (fun _ => []) (fun _ => by kernel_rfl) (fun _ => ?_)
  refine WL.sub [1, 2, 14] (L' := [(1, .pointer (some ⟨b1, 0, none⟩)), (2, .int .i64 0), (14, .bool (((Int.fdiv a0.Dst 281474976710656) != 0) || ((Int.fdiv a0.Src 281474976710656) != 0)))]) (by kernel_rfl) ?_
  refine WL.join (σ := Bool) 5 (fun st => gangwayref04_Check.k1 a0 st = some r) (fun st => [(1, .pointer (some ⟨b1, 0, none⟩)), (2, .int .i64 0), (19, .bool st)]) (fun st => Sat w Z [(b1, .cells #[.int .u64 a0.Dst, .int .u64 a0.Src, .bool a0.Tag.Has, .int .i64 a0.Tag.Pri, .bool a0.Tag.Dei, .int .i64 a0.Tag.Vid, .int .i64 a0.Type_, .string a0.Body] 29 (0, 0))] [] Glob) (fun st hM => ?_) (fun K1 => ?_)
  ·
    obtain ⟨x5, rfl⟩ : ∃ y, y = st := ⟨st, rfl⟩
    replace hM : gangwayref04_Check.k1 a0 x5 = some r := hM
    unfold gangwayref04_Check.k1 at hM
    show WL _ _ _ _ _ [(1, .pointer (some ⟨b1, 0, none⟩)), (2, .int .i64 0), (19, .bool x5)] (Sat w Z [(b1, .cells #[.int .u64 a0.Dst, .int .u64 a0.Src, .bool a0.Tag.Has, .int .i64 a0.Tag.Pri, .bool a0.Tag.Dei, .int .i64 a0.Tag.Vid, .int .i64 a0.Type_, .string a0.Body] 29 (0, 0))] [] Glob)
    refine WP.done ?_
    refine WP.cond x5 rfl rfl (fun c6 => ?_) (fun c6 => ?_)
    · replace hM := cond_t hM c6
      refine WP.seq ?_
      refine WP.run [] [1, 2] (fun _ => [(1, .pointer (some ⟨b1, 0, none⟩)), (2, .int .i64 41)]) (fun _ => [(b1, .cells #[.int .u64 a0.Dst, .int .u64 a0.Src, .bool a0.Tag.Has, .int .i64 a0.Tag.Pri, .bool a0.Tag.Dei, .int .i64 a0.Tag.Vid, .int .i64 a0.Type_, .string a0.Body] 29 (0, 0))]) (fun _ => []) (fun _ => by kernel_rfl) (fun _ => ?_)
      obtain rfl := Option.some.inj hM
      exact WP.ret [] [] (.int .i64 41) (by kernel_rfl) (fun w' hw => ⟨rfl, hw.pick [] rfl⟩)
    · replace hM := cond_f hM c6
      refine WP.skip ?_
      refine WP.seq ?_
      refine WP.seq ?_
      refine WP.region ?_
      refine WL.run 4 [0] [1, 2, 23] (fun _ => [(1, .pointer (some ⟨b1, 0, none⟩)), (2, .int .i64 0), (23, .bool (a0.Type_ != 0))]) (fun _ => [(b1, .cells #[.int .u64 a0.Dst, .int .u64 a0.Src, .bool a0.Tag.Has, .int .i64 a0.Tag.Pri, .bool a0.Tag.Dei, .int .i64 a0.Tag.Vid, .int .i64 a0.Type_, .string a0.Body] 29 (0, 0))]) (fun _ => [b1]) (fun _ => by kernel_rfl) (fun _ => ?_)
      refine WL.sub [1, 2, 23] (L' := [(1, .pointer (some ⟨b1, 0, none⟩)), (2, .int .i64 0), (23, .bool (a0.Type_ != 0))]) (by kernel_rfl) ?_
      refine WL.join (σ := Bool) 14 (fun st => gangwayref04_Check.k2 a0 st = some r) (fun st => [(1, .pointer (some ⟨b1, 0, none⟩)), (2, .int .i64 0), (37, .bool st)]) (fun st => Sat w Z [(b1, .cells #[.int .u64 a0.Dst, .int .u64 a0.Src, .bool a0.Tag.Has, .int .i64 a0.Tag.Pri, .bool a0.Tag.Dei, .int .i64 a0.Tag.Vid, .int .i64 a0.Type_, .string a0.Body] 29 (0, 0))] [] Glob) (fun st hM => ?_) (fun K2 => ?_)
      ·
        obtain ⟨x8, rfl⟩ : ∃ y, y = st := ⟨st, rfl⟩
        replace hM : gangwayref04_Check.k2 a0 x8 = some r := hM
        unfold gangwayref04_Check.k2 at hM
        show WL _ _ _ _ _ [(1, .pointer (some ⟨b1, 0, none⟩)), (2, .int .i64 0), (37, .bool x8)] (Sat w Z [(b1, .cells #[.int .u64 a0.Dst, .int .u64 a0.Src, .bool a0.Tag.Has, .int .i64 a0.Tag.Pri, .bool a0.Tag.Dei, .int .i64 a0.Tag.Vid, .int .i64 a0.Type_, .string a0.Body] 29 (0, 0))] [] Glob)
        refine WP.done ?_
        refine WP.cond x8 rfl rfl (fun c9 => ?_) (fun c9 => ?_)
        · replace hM := cond_t hM c9
          refine WP.seq ?_
          refine WP.run [] [1, 2] (fun _ => [(1, .pointer (some ⟨b1, 0, none⟩)), (2, .int .i64 41)]) (fun _ => [(b1, .cells #[.int .u64 a0.Dst, .int .u64 a0.Src, .bool a0.Tag.Has, .int .i64 a0.Tag.Pri, .bool a0.Tag.Dei, .int .i64 a0.Tag.Vid, .int .i64 a0.Type_, .string a0.Body] 29 (0, 0))]) (fun _ => []) (fun _ => by kernel_rfl) (fun _ => ?_)
          obtain rfl := Option.some.inj hM
          exact WP.ret [] [] (.int .i64 41) (by kernel_rfl) (fun w' hw => ⟨rfl, hw.pick [] rfl⟩)
        · replace hM := cond_f hM c9
          refine WP.skip ?_
          refine WP.seq ?_
          refine WP.seq ?_
          refine WP.region ?_
          refine WL.run 4 [0] [1, 2, 41] (fun _ => [(1, .pointer (some ⟨b1, 0, none⟩)), (2, .int .i64 0), (41, .bool (a0.Type_ == 0))]) (fun _ => [(b1, .cells #[.int .u64 a0.Dst, .int .u64 a0.Src, .bool a0.Tag.Has, .int .i64 a0.Tag.Pri, .bool a0.Tag.Dei, .int .i64 a0.Tag.Vid, .int .i64 a0.Type_, .string a0.Body] 29 (0, 0))]) (fun _ => [b1]) (fun _ => by kernel_rfl) (fun _ => ?_)
          refine WL.sub [1, 2, 41] (L' := [(1, .pointer (some ⟨b1, 0, none⟩)), (2, .int .i64 0), (41, .bool (a0.Type_ == 0))]) (by kernel_rfl) ?_
          refine WL.both (fun b' => [(1, .pointer (some ⟨b1, 0, none⟩)), (2, .int .i64 0), (41, .bool b')]) (a0.Type_ == 0) 5 [0] [] [1, 2, 46] (fun b' => [(1, .pointer (some ⟨b1, 0, none⟩)), (2, .int .i64 0), (46, .bool (b' && (decide ((a0.Body.size : Int) > 1500))))]) [b1] [] (fun _ => by kernel_rfl) (fun _ => by kernel_rfl) ?_
          refine WP.done ?_
          refine WP.cond ((a0.Type_ == 0) && (decide ((a0.Body.size : Int) > 1500))) rfl rfl (fun c10 => ?_) (fun c10 => ?_)
          · replace hM := cond_t hM c10
            refine WP.seq ?_
            refine WP.run [] [1, 2] (fun _ => [(1, .pointer (some ⟨b1, 0, none⟩)), (2, .int .i64 40)]) (fun _ => [(b1, .cells #[.int .u64 a0.Dst, .int .u64 a0.Src, .bool a0.Tag.Has, .int .i64 a0.Tag.Pri, .bool a0.Tag.Dei, .int .i64 a0.Tag.Vid, .int .i64 a0.Type_, .string a0.Body] 29 (0, 0))]) (fun _ => []) (fun _ => by kernel_rfl) (fun _ => ?_)
            obtain rfl := Option.some.inj hM
            exact WP.ret [] [] (.int .i64 40) (by kernel_rfl) (fun w' hw => ⟨rfl, hw.pick [] rfl⟩)
          · replace hM := cond_f hM c10
            refine WP.skip ?_
            refine WP.seq ?_
            refine WP.run [0] [1, 2, 3] (fun _ => [(1, .pointer (some ⟨b1, 0, none⟩)), (2, .int .i64 0), (3, .int .i64 (i64 (14 + (a0.Body.size : Int))))]) (fun _ => [(b1, .cells #[.int .u64 a0.Dst, .int .u64 a0.Src, .bool a0.Tag.Has, .int .i64 a0.Tag.Pri, .bool a0.Tag.Dei, .int .i64 a0.Tag.Vid, .int .i64 a0.Type_, .string a0.Body] 29 (0, 0))]) (fun _ => [b1]) (fun _ => by kernel_rfl) (fun _ => ?_)
            refine WP.seqJoin (σ := Int) (fun st => gangwayref04_Check.k3 st = some r) (fun st => [(2, .int .i64 0), (3, .int .i64 st)]) (fun st => Sat w Z [] [] Glob) (fun st hM => ?_) (fun K3 => ?_)
            ·
              obtain ⟨x12, rfl⟩ : ∃ y, y = st := ⟨st, rfl⟩
              replace hM : gangwayref04_Check.k3 x12 = some r := hM
              unfold gangwayref04_Check.k3 at hM
              show WP _ _ _ _ _ [(2, .int .i64 0), (3, .int .i64 x12)] (Sat w Z [] [] Glob)
              refine WP.seq ?_
              refine WP.seq ?_
              refine WP.run [] [2, 57] (fun _ => [(2, .int .i64 0), (57, .bool (decide (x12 > 1600)))]) (fun _ => []) (fun _ => []) (fun _ => by kernel_rfl) (fun _ => ?_)
              refine WP.cond (decide (x12 > 1600)) rfl rfl (fun c13 => ?_) (fun c13 => ?_)
              · replace hM := cond_t hM c13
                refine WP.seq ?_
                refine WP.run [] [2] (fun _ => [(2, .int .i64 41)]) (fun _ => []) (fun _ => []) (fun _ => by kernel_rfl) (fun _ => ?_)
                obtain rfl := Option.some.inj hM
                exact WP.ret [] [] (.int .i64 41) (by kernel_rfl) (fun w' hw => ⟨rfl, hw.pick [] rfl⟩)
              · replace hM := cond_f hM c13
                refine WP.skip ?_
                refine WP.seq ?_
                refine WP.run [] [2] (fun _ => [(2, .int .i64 0)]) (fun _ => []) (fun _ => []) (fun _ => by kernel_rfl) (fun _ => ?_)
                obtain rfl := Option.some.inj hM
                exact WP.ret [] [] (.int .i64 0) (by kernel_rfl) (fun w' hw => ⟨rfl, hw.pick [] rfl⟩)
            ·
              refine WP.seq ?_
              refine WP.run [0] [2, 3, 53] (fun _ => [(2, .int .i64 0), (3, .int .i64 (i64 (14 + (a0.Body.size : Int)))), (53, .bool a0.Tag.Has)]) (fun _ => [(b1, .cells #[.int .u64 a0.Dst, .int .u64 a0.Src, .bool a0.Tag.Has, .int .i64 a0.Tag.Pri, .bool a0.Tag.Dei, .int .i64 a0.Tag.Vid, .int .i64 a0.Type_, .string a0.Body] 29 (0, 0))]) (fun _ => [b1]) (fun _ => by kernel_rfl) (fun _ => ?_)
              refine WP.keep [false] (by kernel_rfl : _ = []) ?_
              refine WP.cond a0.Tag.Has rfl rfl (fun c11 => ?_) (fun c11 => ?_)
              · replace hM := cond_t hM c11
                refine WP.run [] [2, 3] (fun _ => [(2, .int .i64 0), (3, .int .i64 (i64 ((i64 (14 + (a0.Body.size : Int))) + 4)))]) (fun _ => []) (fun _ => []) (fun _ => by kernel_rfl) (fun _ => ?_)
                exact WP.sub [2, 3] (by kernel_rfl) (WP.pick [] (by kernel_rfl) (by kernel_rfl) (K3 (i64 ((i64 (14 + (a0.Body.size : Int))) + 4)) hM))
              · replace hM := cond_f hM c11
                refine WP.skip ?_
                exact WP.sub [2, 3] (by kernel_rfl) (WP.pick [] (by kernel_rfl) (by kernel_rfl) (K3 (i64 (14 + (a0.Body.size : Int))) hM))
      ·
        refine WL.split (fun b' => [(1, .pointer (some ⟨b1, 0, none⟩)), (2, .int .i64 0), (23, .bool b')]) (a0.Type_ != 0) (fun c7 => ?_) (fun c7 => ?_)
        · replace hM := cond_t hM c7
          refine WL.run 4 [0] [1, 2, 23, 27] (fun _ => [(1, .pointer (some ⟨b1, 0, none⟩)), (2, .int .i64 0), (23, .bool true), (27, .bool (decide (a0.Type_ < 1536)))]) (fun _ => [(b1, .cells #[.int .u64 a0.Dst, .int .u64 a0.Src, .bool a0.Tag.Has, .int .i64 a0.Tag.Pri, .bool a0.Tag.Dei, .int .i64 a0.Tag.Vid, .int .i64 a0.Type_, .string a0.Body] 29 (0, 0))]) (fun _ => [b1]) (fun _ => by kernel_rfl) (fun _ => ?_)
          refine WL.sub [1, 2, 23, 27] (L' := [(1, .pointer (some ⟨b1, 0, none⟩)), (2, .int .i64 0), (23, .bool true), (27, .bool (decide (a0.Type_ < 1536)))]) (by kernel_rfl) ?_
          refine WL.both (fun b' => [(1, .pointer (some ⟨b1, 0, none⟩)), (2, .int .i64 0), (23, .bool true), (27, .bool b')]) (decide (a0.Type_ < 1536)) 4 [] [0] [1, 2, 23, 31] (fun b' => [(1, .pointer (some ⟨b1, 0, none⟩)), (2, .int .i64 0), (23, .bool true), (31, .bool (b' || (decide (a0.Type_ > 65535))))]) [] [b1] (fun _ => by kernel_rfl) (fun _ => by kernel_rfl) ?_
          refine WL.run 1 [] [1, 2, 23, 32] (fun _ => [(1, .pointer (some ⟨b1, 0, none⟩)), (2, .int .i64 0), (23, .bool true), (32, .bool ((decide (a0.Type_ < 1536)) || (decide (a0.Type_ > 65535))))]) (fun _ => [(b1, .cells #[.int .u64 a0.Dst, .int .u64 a0.Src, .bool a0.Tag.Has, .int .i64 a0.Tag.Pri, .bool a0.Tag.Dei, .int .i64 a0.Tag.Vid, .int .i64 a0.Type_, .string a0.Body] 29 (0, 0))]) (fun _ => []) (fun _ => by kernel_rfl) (fun _ => ?_)
          refine WL.sub [1, 2, 23, 32] (L' := [(1, .pointer (some ⟨b1, 0, none⟩)), (2, .int .i64 0), (23, .bool true), (32, .bool ((decide (a0.Type_ < 1536)) || (decide (a0.Type_ > 65535))))]) (by kernel_rfl) ?_
          refine WL.both (fun b' => [(1, .pointer (some ⟨b1, 0, none⟩)), (2, .int .i64 0), (23, .bool true), (32, .bool b')]) ((decide (a0.Type_ < 1536)) || (decide (a0.Type_ > 65535))) 4 [] [0] [1, 2, 23, 36] (fun b' => [(1, .pointer (some ⟨b1, 0, none⟩)), (2, .int .i64 0), (23, .bool true), (36, .bool (b' || (a0.Type_ == 33024)))]) [] [b1] (fun _ => by kernel_rfl) (fun _ => by kernel_rfl) ?_
          refine WL.run 1 [] [1, 2, 37] (fun _ => [(1, .pointer (some ⟨b1, 0, none⟩)), (2, .int .i64 0), (37, .bool (((decide (a0.Type_ < 1536)) || (decide (a0.Type_ > 65535))) || (a0.Type_ == 33024)))]) (fun _ => [(b1, .cells #[.int .u64 a0.Dst, .int .u64 a0.Src, .bool a0.Tag.Has, .int .i64 a0.Tag.Pri, .bool a0.Tag.Dei, .int .i64 a0.Tag.Vid, .int .i64 a0.Type_, .string a0.Body] 29 (0, 0))]) (fun _ => []) (fun _ => by kernel_rfl) (fun _ => ?_)
          exact WL.sub [1, 2, 37] (by kernel_rfl) (WL.pick [0] (by kernel_rfl) (by kernel_rfl) (K2 (((decide (a0.Type_ < 1536)) || (decide (a0.Type_ > 65535))) || (a0.Type_ == 33024)) hM))
        · replace hM := cond_f hM c7
          refine WL.run 14 [] [1, 2, 37] (fun _ => [(1, .pointer (some ⟨b1, 0, none⟩)), (2, .int .i64 0), (37, .bool false)]) (fun _ => [(b1, .cells #[.int .u64 a0.Dst, .int .u64 a0.Src, .bool a0.Tag.Has, .int .i64 a0.Tag.Pri, .bool a0.Tag.Dei, .int .i64 a0.Tag.Vid, .int .i64 a0.Type_, .string a0.Body] 29 (0, 0))]) (fun _ => []) (fun _ => by kernel_rfl) (fun _ => ?_)
          exact WL.sub [1, 2, 37] (by kernel_rfl) (WL.pick [0] (by kernel_rfl) (by kernel_rfl) (K2 false hM))
  ·
    refine WL.split (fun b' => [(1, .pointer (some ⟨b1, 0, none⟩)), (2, .int .i64 0), (14, .bool b')]) (((Int.fdiv a0.Dst 281474976710656) != 0) || ((Int.fdiv a0.Src 281474976710656) != 0)) (fun c2 => ?_) (fun c2 => ?_)
    · replace hM := cond_t hM c2
      refine WL.run 5 [] [1, 2, 19] (fun _ => [(1, .pointer (some ⟨b1, 0, none⟩)), (2, .int .i64 0), (19, .bool true)]) (fun _ => [(b1, .cells #[.int .u64 a0.Dst, .int .u64 a0.Src, .bool a0.Tag.Has, .int .i64 a0.Tag.Pri, .bool a0.Tag.Dei, .int .i64 a0.Tag.Vid, .int .i64 a0.Type_, .string a0.Body] 29 (0, 0))]) (fun _ => []) (fun _ => by kernel_rfl) (fun _ => ?_)
      exact WL.sub [1, 2, 19] (by kernel_rfl) (WL.pick [0] (by kernel_rfl) (by kernel_rfl) (K1 true hM))
    · replace hM := cond_f hM c2
      refine WL.run 2 [0, 0, 0, 0] [1, 2, 14, 16] (fun _ => [(1, .pointer (some ⟨b1, 0, none⟩)), (2, .int .i64 0), (14, .bool false), (16, .agg #[.bool a0.Tag.Has, .int .i64 a0.Tag.Pri, .bool a0.Tag.Dei, .int .i64 a0.Tag.Vid])]) (fun _ => [(b1, .cells #[.int .u64 a0.Dst, .int .u64 a0.Src, .bool a0.Tag.Has, .int .i64 a0.Tag.Pri, .bool a0.Tag.Dei, .int .i64 a0.Tag.Vid, .int .i64 a0.Type_, .string a0.Body] 29 (0, 0))]) (fun _ => [b1, b1, b1, b1]) (fun _ => by kernel_rfl) (fun _ => ?_)
      obtain ⟨r3, h4, hM⟩ := bind_some hM
      refine WL.callP [] [] (gangwayref04_tag_calls a0.Tag _ h4) (fun _ h => h) (by kernel_rfl) (by kernel_rfl) rfl ?_
      refine WL.run 2 [] [1, 2, 19] (fun _ => [(1, .pointer (some ⟨b1, 0, none⟩)), (2, .int .i64 0), (19, .bool (!r3))]) (fun _ => [(b1, .cells #[.int .u64 a0.Dst, .int .u64 a0.Src, .bool a0.Tag.Has, .int .i64 a0.Tag.Pri, .bool a0.Tag.Dei, .int .i64 a0.Tag.Vid, .int .i64 a0.Type_, .string a0.Body] 29 (0, 0))]) (fun _ => []) (fun _ => by kernel_rfl) (fun _ => ?_)
      exact WL.sub [1, 2, 19] (by kernel_rfl) (WL.pick [0] (by kernel_rfl) (by kernel_rfl) (K1 (!r3) hM))

end Go.Proofs.YtbodofjnfmjbpaaGreatDoor

namespace Go.Proofs.YtbodofjnfmjbpaaGreatDoor
open Go Eng
set_option linter.unusedVariables false
set_option linter.unusedSimpArgs false

/-! ### gangway/gangwayref04.Build: function 21 -/
def gangwayref04_Build.k2 (k : Nat) (x20 : ByteArray) (a0 : api_Frame) (x22 : Int) : Option (ByteArray × Int) :=
  (gangwayref01_Bytes.f k (u64 x22) 2).bind fun r23 =>
  (catS x20 r23).bind fun t25 =>
  (catS t25 a0.Body).bind fun t27 =>
  some (t27, 0)

def gangwayref04_Build.k3 (a0 : api_Frame) (k : Nat) (x20 : ByteArray) : Option (ByteArray × Int) :=
  bif (a0.Type_ == 0) then
    gangwayref04_Build.k2 k x20 a0 (a0.Body.size : Int)
  else
    gangwayref04_Build.k2 k x20 a0 a0.Type_

def gangwayref04_Build.k1 (k : Nat) (t9 : ByteArray) (a0 : api_Frame) (x13 : Int) : Option (ByteArray × Int) :=
  (gangwayref01_Bytes.f k (u64 x13) 2).bind fun r14 =>
  (catS (⟨#[129, 0]⟩ : ByteArray) r14).bind fun t16 =>
  (catS t9 t16).bind fun t18 =>
  gangwayref04_Build.k3 a0 k t18

def gangwayref04_Build.f (k : Nat) (a0 : api_Frame) : Option (ByteArray × Int) :=
  (gangwayref04_Check.f a0).bind fun r2 =>
  bif (r2 != 0) then
    some ((⟨#[]⟩ : ByteArray), r2)
  else
    (gangwayref01_Bytes.f k a0.Dst 6).bind fun r5 =>
    (gangwayref01_Bytes.f k a0.Src 6).bind fun r7 =>
    (catS r5 r7).bind fun t9 =>
    bif a0.Tag.Has then
      bif a0.Tag.Dei then
        gangwayref04_Build.k1 k t9 a0 (i64 ((i64 ((i64 (a0.Tag.Pri * 8192)) + a0.Tag.Vid)) + 4096))
      else
        gangwayref04_Build.k1 k t9 a0 (i64 ((i64 (a0.Tag.Pri * 8192)) + a0.Tag.Vid))
    else
      gangwayref04_Build.k3 a0 k t9

set_option maxRecDepth 100000 in
theorem gangwayref04_Build_calls (k : Nat) (a0 : api_Frame) (r : ByteArray × Int) (h : gangwayref04_Build.f k a0 = some r) : Pure Tryz.prog Glob 21 #[.agg #[.int .u64 a0.Dst, .int .u64 a0.Src, .bool a0.Tag.Has, .int .i64 a0.Tag.Pri, .bool a0.Tag.Dei, .int .i64 a0.Tag.Vid, .int .i64 a0.Type_, .string a0.Body]] (.tuple #[.string r.1, .int .i64 r.2]) := by
  intro w Z hS
  refine calls_of (args := [.agg #[.int .u64 a0.Dst, .int .u64 a0.Src, .bool a0.Tag.Has, .int .i64 a0.Tag.Pri, .bool a0.Tag.Dei, .int .i64 a0.Tag.Vid, .int .i64 a0.Type_, .string a0.Body]]) (L := [(0, .agg #[.int .u64 a0.Dst, .int .u64 a0.Src, .bool a0.Tag.Has, .int .i64 a0.Tag.Pri, .bool a0.Tag.Dei, .int .i64 a0.Tag.Vid, .int .i64 a0.Type_, .string a0.Body])]) (N := 57) (S := Sat w Z [] [] Glob) Tryz.func21 rfl rfl (Nat.le_of_ble_eq_true rfl) rfl hS ?_
  have hM := h
  clear h hS
  unfold gangwayref04_Build.f at hM
  refine WP.seq ?_
  refine WP.run [] [1, 2, 3] (fun b1 => [(1, .pointer (some ⟨b1, 0, none⟩)), (2, .string (⟨#[]⟩ : ByteArray)), (3, .int .i64 0)]) (fun b1 => [(b1, .cells #[.int .u64 a0.Dst, .int .u64 a0.Src, .bool a0.Tag.Has, .int .i64 a0.Tag.Pri, .bool a0.Tag.Dei, .int .i64 a0.Tag.Vid, .int .i64 a0.Type_, .string a0.Body] 29 (0, 0))]) (fun b1 => []) (fun b1 => by kernel_rfl) (fun b1 => ?_)
  refine WP.seq ?_
  refine WP.region ?_
  refine WL.run 1 [0, 0, 0, 0, 0, 0, 0, 0] [1, 2, 3, 8] (fun _ => [(1, .pointer (some ⟨b1, 0, none⟩)), (2, .string (⟨#[]⟩ : ByteArray)), (3, .int .i64 0), (8, .agg #[.int .u64 a0.Dst, .int .u64 a0.Src, .bool a0.Tag.Has, .int .i64 a0.Tag.Pri, .bool a0.Tag.Dei, .int .i64 a0.Tag.Vid, .int .i64 a0.Type_, .string a0.Body])]) (fun _ => [(b1, .cells #[.int .u64 a0.Dst, .int .u64 a0.Src, .bool a0.Tag.Has, .int .i64 a0.Tag.Pri, .bool a0.Tag.Dei, .int .i64 a0.Tag.Vid, .int .i64 a0.Type_, .string a0.Body] 29 (0, 0))]) (fun _ => [b1, b1, b1, b1, b1, b1, b1, b1]) (fun _ => by kernel_rfl) (fun _ => ?_)
  obtain ⟨r2, h3, hM⟩ := bind_some hM
  refine WL.callP [] [] (gangwayref04_Check_calls a0 _ h3) (fun _ h => h) (by kernel_rfl) (by kernel_rfl) rfl ?_
  refine WL.run 1 [] [1, 2, 3, 4] (fun _ => [(1, .pointer (some ⟨b1, 0, none⟩)), (2, .string (⟨#[]⟩ : ByteArray)), (3, .int .i64 0), (4, .int .i64 r2)]) (fun _ => [(b1, .cells #[.int .u64 a0.Dst, .int .u64 a0.Src, .bool a0.Tag.Has, .int .i64 a0.Tag.Pri, .bool a0.Tag.Dei, .int .i64 a0.Tag.Vid, .int .i64 a0.Type_, .string a0.Body] 29 (0, 0))]) (fun _ => []) (fun _ => by kernel_rfl) (fun _ => ?_)
  refine WP.done ?_
  refine WP.seq ?_
  refine WP.seq ?_
  refine WP.run [] [1, 2, 3, 4, 11] (fun _ => [(1, .pointer (some ⟨b1, 0, none⟩)), (2, .string (⟨#[]⟩ : ByteArray)), (3, .int .i64 0), (4, .int .i64 r2), (11, .bool (r2 != 0))]) (fun _ => [(b1, .cells #[.int .u64 a0.Dst, .int .u64 a0.Src, .bool a0.Tag.Has, .int .i64 a0.Tag.Pri, .bool a0.Tag.Dei, .int .i64 a0.Tag.Vid, .int .i64 a0.Type_, .string a0.Body] 29 (0, 0))]) (fun _ => []) (fun _ => by kernel_rfl) (fun _ => ?_)
  refine WP.cond (r2 != 0) rfl rfl (fun c4 => ?_) (fun c4 => ?_)
  · replace hM := cond_t hM c4
    refine WP.seq ?_
    refine WP.run [] [1, 2, 3] (fun _ => [(1, .pointer (some ⟨b1, 0, none⟩)), (2, .string (⟨#[]⟩ : ByteArray)), (3, .int .i64 r2)]) (fun _ => [(b1, .cells #[.int .u64 a0.Dst, .int .u64 a0.Src, .bool a0.Tag.Has, .int .i64 a0.Tag.Pri, .bool a0.Tag.Dei, .int .i64 a0.Tag.Vid, .int .i64 a0.Type_, .string a0.Body] 29 (0, 0))]) (fun _ => []) (fun _ => by kernel_rfl) (fun _ => ?_)
    obtain rfl := Option.some.inj hM
    exact WP.ret [] [] (.tuple #[.string (⟨#[]⟩ : ByteArray), .int .i64 r2]) (by kernel_rfl) (fun w' hw => ⟨rfl, hw.pick [] rfl⟩)
  · replace hM := cond_f hM c4
    refine WP.skip ?_
    refine WP.seq ?_
    refine WP.quiet (by kernel_rfl) (by kernel_rfl) ?_
    refine QL.run 2 [0] [1, 2, 3, 14] [b1] [(1, .pointer (some ⟨b1, 0, none⟩)), (2, .string (⟨#[]⟩ : ByteArray)), (3, .int .i64 0), (14, .int .u64 a0.Dst)] (by kernel_rfl) ?_
    obtain ⟨r5, h6, hM⟩ := bind_some hM
    refine QL.callP [] [] (gangwayref01_Bytes_calls k a0.Dst 6 _ h6) (fun _ h => h) (by kernel_rfl) (by kernel_rfl) rfl ?_
    refine QL.run 2 [0] [1, 2, 3, 15, 17] [b1] [(1, .pointer (some ⟨b1, 0, none⟩)), (2, .string (⟨#[]⟩ : ByteArray)), (3, .int .i64 0), (15, .string r5), (17, .int .u64 a0.Src)] (by kernel_rfl) ?_
    obtain ⟨r7, h8, hM⟩ := bind_some hM
    refine QL.callP [] [] (gangwayref01_Bytes_calls k a0.Src 6 _ h8) (fun _ h => h) (by kernel_rfl) (by kernel_rfl) rfl ?_
    obtain ⟨t9, h10, hM⟩ := bind_some hM
    refine QL.val (fun _ => run_catS (a := r5) (b := r7) (by kernel_rfl) (by kernel_rfl) h10) (by kernel_rfl) (by kernel_rfl) rfl ?_
    refine QL.run 1 [] [1, 2, 3, 5] [] [(1, .pointer (some ⟨b1, 0, none⟩)), (2, .string (⟨#[]⟩ : ByteArray)), (3, .int .i64 0), (5, .string t9)] (by kernel_rfl) ?_
    refine QL.done ?_
    refine WP.seqJoin (σ := ByteArray) (fun st => gangwayref04_Build.k3 a0 k st = some r) (fun st => [(1, .pointer (some ⟨b1, 0, none⟩)), (2, .string (⟨#[]⟩ : ByteArray)), (3, .int .i64 0), (5, .string st)]) (fun st => Sat w Z [(b1, .cells #[.int .u64 a0.Dst, .int .u64 a0.Src, .bool a0.Tag.Has, .int .i64 a0.Tag.Pri, .bool a0.Tag.Dei, .int .i64 a0.Tag.Vid, .int .i64 a0.Type_, .string a0.Body] 29 (0, 0))] [] Glob) (fun st hM => ?_) (fun K3 => ?_)
    ·
      obtain ⟨x20, rfl⟩ : ∃ y, y = st := ⟨st, rfl⟩
      replace hM : gangwayref04_Build.k3 a0 k x20 = some r := hM
      unfold gangwayref04_Build.k3 at hM
      show WP _ _ _ _ _ [(1, .pointer (some ⟨b1, 0, none⟩)), (2, .string (⟨#[]⟩ : ByteArray)), (3, .int .i64 0), (5, .string x20)] (Sat w Z [(b1, .cells #[.int .u64 a0.Dst, .int .u64 a0.Src, .bool a0.Tag.Has, .int .i64 a0.Tag.Pri, .bool a0.Tag.Dei, .int .i64 a0.Tag.Vid, .int .i64 a0.Type_, .string a0.Body] 29 (0, 0))] [] Glob)
      refine WP.seq ?_
      refine WP.run [0] [1, 2, 3, 5, 7] (fun _ => [(1, .pointer (some ⟨b1, 0, none⟩)), (2, .string (⟨#[]⟩ : ByteArray)), (3, .int .i64 0), (5, .string x20), (7, .int .i64 a0.Type_)]) (fun _ => [(b1, .cells #[.int .u64 a0.Dst, .int .u64 a0.Src, .bool a0.Tag.Has, .int .i64 a0.Tag.Pri, .bool a0.Tag.Dei, .int .i64 a0.Tag.Vid, .int .i64 a0.Type_, .string a0.Body] 29 (0, 0))]) (fun _ => [b1]) (fun _ => by kernel_rfl) (fun _ => ?_)
      refine WP.seqJoin (σ := Int) (fun st => gangwayref04_Build.k2 k x20 a0 st = some r) (fun st => [(1, .pointer (some ⟨b1, 0, none⟩)), (2, .string (⟨#[]⟩ : ByteArray)), (3, .int .i64 0), (5, .string x20), (7, .int .i64 st)]) (fun st => Sat w Z [(b1, .cells #[.int .u64 a0.Dst, .int .u64 a0.Src, .bool a0.Tag.Has, .int .i64 a0.Tag.Pri, .bool a0.Tag.Dei, .int .i64 a0.Tag.Vid, .int .i64 a0.Type_, .string a0.Body] 29 (0, 0))] [] Glob) (fun st hM => ?_) (fun K2 => ?_)
      ·
        obtain ⟨x22, rfl⟩ : ∃ y, y = st := ⟨st, rfl⟩
        replace hM : gangwayref04_Build.k2 k x20 a0 x22 = some r := hM
        unfold gangwayref04_Build.k2 at hM
        show WP _ _ _ _ _ [(1, .pointer (some ⟨b1, 0, none⟩)), (2, .string (⟨#[]⟩ : ByteArray)), (3, .int .i64 0), (5, .string x20), (7, .int .i64 x22)] (Sat w Z [(b1, .cells #[.int .u64 a0.Dst, .int .u64 a0.Src, .bool a0.Tag.Has, .int .i64 a0.Tag.Pri, .bool a0.Tag.Dei, .int .i64 a0.Tag.Vid, .int .i64 a0.Type_, .string a0.Body] 29 (0, 0))] [] Glob)
        refine WP.seq ?_
        refine WP.quiet (by kernel_rfl) (by kernel_rfl) ?_
        refine QL.run 3 [] [1, 2, 3, 49, 51] [] [(1, .pointer (some ⟨b1, 0, none⟩)), (2, .string (⟨#[]⟩ : ByteArray)), (3, .int .i64 0), (49, .string x20), (51, .int .u64 (u64 x22))] (by kernel_rfl) ?_
        obtain ⟨r23, h24, hM⟩ := bind_some hM
        refine QL.callP [] [] (gangwayref01_Bytes_calls k (u64 x22) 2 _ h24) (fun _ h => h) (by kernel_rfl) (by kernel_rfl) rfl ?_
        obtain ⟨t25, h26, hM⟩ := bind_some hM
        refine QL.val (fun _ => run_catS (a := x20) (b := r23) (by kernel_rfl) (by kernel_rfl) h26) (by kernel_rfl) (by kernel_rfl) rfl ?_
        refine QL.run 2 [0] [2, 3, 53, 55] [b1] [(2, .string (⟨#[]⟩ : ByteArray)), (3, .int .i64 0), (53, .string t25), (55, .string a0.Body)] (by kernel_rfl) ?_
        obtain ⟨t27, h28, hM⟩ := bind_some hM
        refine QL.val (fun _ => run_catS (a := t25) (b := a0.Body) (by kernel_rfl) (by kernel_rfl) h28) (by kernel_rfl) (by kernel_rfl) rfl ?_
        refine QL.run 2 [] [2, 3] [] [(2, .string t27), (3, .int .i64 0)] (by kernel_rfl) ?_
        refine QL.done ?_
        refine WP.keep [false] (by kernel_rfl : _ = []) ?_
        obtain rfl := Option.some.inj hM
        exact WP.ret [] [] (.tuple #[.string t27, .int .i64 0]) (by kernel_rfl) (fun w' hw => ⟨rfl, hw.pick [] rfl⟩)
      ·
        refine WP.seq ?_
        refine WP.run [] [1, 2, 3, 5, 7, 45] (fun _ => [(1, .pointer (some ⟨b1, 0, none⟩)), (2, .string (⟨#[]⟩ : ByteArray)), (3, .int .i64 0), (5, .string x20), (7, .int .i64 a0.Type_), (45, .bool (a0.Type_ == 0))]) (fun _ => [(b1, .cells #[.int .u64 a0.Dst, .int .u64 a0.Src, .bool a0.Tag.Has, .int .i64 a0.Tag.Pri, .bool a0.Tag.Dei, .int .i64 a0.Tag.Vid, .int .i64 a0.Type_, .string a0.Body] 29 (0, 0))]) (fun _ => []) (fun _ => by kernel_rfl) (fun _ => ?_)
        refine WP.cond (a0.Type_ == 0) rfl rfl (fun c21 => ?_) (fun c21 => ?_)
        · replace hM := cond_t hM c21
          refine WP.run [0] [1, 2, 3, 5, 7] (fun _ => [(1, .pointer (some ⟨b1, 0, none⟩)), (2, .string (⟨#[]⟩ : ByteArray)), (3, .int .i64 0), (5, .string x20), (7, .int .i64 (a0.Body.size : Int))]) (fun _ => [(b1, .cells #[.int .u64 a0.Dst, .int .u64 a0.Src, .bool a0.Tag.Has, .int .i64 a0.Tag.Pri, .bool a0.Tag.Dei, .int .i64 a0.Tag.Vid, .int .i64 a0.Type_, .string a0.Body] 29 (0, 0))]) (fun _ => [b1]) (fun _ => by kernel_rfl) (fun _ => ?_)
          exact WP.sub [1, 2, 3, 5, 7] (by kernel_rfl) (WP.pick [0] (by kernel_rfl) (by kernel_rfl) (K2 (a0.Body.size : Int) hM))
        · replace hM := cond_f hM c21
          refine WP.skip ?_
          exact WP.sub [1, 2, 3, 5, 7] (by kernel_rfl) (WP.pick [0] (by kernel_rfl) (by kernel_rfl) (K2 a0.Type_ hM))
    ·
      refine WP.seq ?_
      refine WP.run [0] [1, 2, 3, 5, 22] (fun _ => [(1, .pointer (some ⟨b1, 0, none⟩)), (2, .string (⟨#[]⟩ : ByteArray)), (3, .int .i64 0), (5, .string t9), (22, .bool a0.Tag.Has)]) (fun _ => [(b1, .cells #[.int .u64 a0.Dst, .int .u64 a0.Src, .bool a0.Tag.Has, .int .i64 a0.Tag.Pri, .bool a0.Tag.Dei, .int .i64 a0.Tag.Vid, .int .i64 a0.Type_, .string a0.Body] 29 (0, 0))]) (fun _ => [b1]) (fun _ => by kernel_rfl) (fun _ => ?_)
      refine WP.cond a0.Tag.Has rfl rfl (fun c11 => ?_) (fun c11 => ?_)
      · replace hM := cond_t hM c11
        refine WP.seq ?_
        refine WP.run [0, 0] [1, 2, 3, 5, 6] (fun _ => [(1, .pointer (some ⟨b1, 0, none⟩)), (2, .string (⟨#[]⟩ : ByteArray)), (3, .int .i64 0), (5, .string t9), (6, .int .i64 (i64 ((i64 (a0.Tag.Pri * 8192)) + a0.Tag.Vid)))]) (fun _ => [(b1, .cells #[.int .u64 a0.Dst, .int .u64 a0.Src, .bool a0.Tag.Has, .int .i64 a0.Tag.Pri, .bool a0.Tag.Dei, .int .i64 a0.Tag.Vid, .int .i64 a0.Type_, .string a0.Body] 29 (0, 0))]) (fun _ => [b1, b1]) (fun _ => by kernel_rfl) (fun _ => ?_)
        refine WP.seqJoin (σ := Int) (fun st => gangwayref04_Build.k1 k t9 a0 st = some r) (fun st => [(1, .pointer (some ⟨b1, 0, none⟩)), (2, .string (⟨#[]⟩ : ByteArray)), (3, .int .i64 0), (5, .string t9), (6, .int .i64 st)]) (fun st => Sat w Z [(b1, .cells #[.int .u64 a0.Dst, .int .u64 a0.Src, .bool a0.Tag.Has, .int .i64 a0.Tag.Pri, .bool a0.Tag.Dei, .int .i64 a0.Tag.Vid, .int .i64 a0.Type_, .string a0.Body] 29 (0, 0))] [] Glob) (fun st hM => ?_) (fun K1 => ?_)
        ·
          obtain ⟨x13, rfl⟩ : ∃ y, y = st := ⟨st, rfl⟩
          replace hM : gangwayref04_Build.k1 k t9 a0 x13 = some r := hM
          unfold gangwayref04_Build.k1 at hM
          show WP _ _ _ _ _ [(1, .pointer (some ⟨b1, 0, none⟩)), (2, .string (⟨#[]⟩ : ByteArray)), (3, .int .i64 0), (5, .string t9), (6, .int .i64 x13)] (Sat w Z [(b1, .cells #[.int .u64 a0.Dst, .int .u64 a0.Src, .bool a0.Tag.Has, .int .i64 a0.Tag.Pri, .bool a0.Tag.Dei, .int .i64 a0.Tag.Vid, .int .i64 a0.Type_, .string a0.Body] 29 (0, 0))] [] Glob)
          refine WP.region ?_
          refine WL.run 3 [] [1, 2, 3, 5, 36, 38] (fun _ => [(1, .pointer (some ⟨b1, 0, none⟩)), (2, .string (⟨#[]⟩ : ByteArray)), (3, .int .i64 0), (5, .string t9), (36, .string t9), (38, .int .u64 (u64 x13))]) (fun _ => [(b1, .cells #[.int .u64 a0.Dst, .int .u64 a0.Src, .bool a0.Tag.Has, .int .i64 a0.Tag.Pri, .bool a0.Tag.Dei, .int .i64 a0.Tag.Vid, .int .i64 a0.Type_, .string a0.Body] 29 (0, 0))]) (fun _ => []) (fun _ => by kernel_rfl) (fun _ => ?_)
          obtain ⟨r14, h15, hM⟩ := bind_some hM
          refine WL.callP [] [] (gangwayref01_Bytes_calls k (u64 x13) 2 _ h15) (fun _ h => h) (by kernel_rfl) (by kernel_rfl) rfl ?_
          obtain ⟨t16, h17, hM⟩ := bind_some hM
          refine WL.val (fun _ => run_catS (a := (⟨#[129, 0]⟩ : ByteArray)) (b := r14) (by kernel_rfl) (by kernel_rfl) h17) (by kernel_rfl) (by kernel_rfl) rfl ?_
          obtain ⟨t18, h19, hM⟩ := bind_some hM
          refine WL.val (fun _ => run_catS (a := t9) (b := t16) (by kernel_rfl) (by kernel_rfl) h19) (by kernel_rfl) (by kernel_rfl) rfl ?_
          refine WL.run 1 [] [1, 2, 3, 5] (fun _ => [(1, .pointer (some ⟨b1, 0, none⟩)), (2, .string (⟨#[]⟩ : ByteArray)), (3, .int .i64 0), (5, .string t18)]) (fun _ => [(b1, .cells #[.int .u64 a0.Dst, .int .u64 a0.Src, .bool a0.Tag.Has, .int .i64 a0.Tag.Pri, .bool a0.Tag.Dei, .int .i64 a0.Tag.Vid, .int .i64 a0.Type_, .string a0.Body] 29 (0, 0))]) (fun _ => []) (fun _ => by kernel_rfl) (fun _ => ?_)
          refine WP.done ?_
          exact WP.sub [1, 2, 3, 5] (by kernel_rfl) (WP.pick [0] (by kernel_rfl) (by kernel_rfl) (K3 t18 hM))
        ·
          refine WP.seq ?_
          refine WP.run [0] [1, 2, 3, 5, 6, 33] (fun _ => [(1, .pointer (some ⟨b1, 0, none⟩)), (2, .string (⟨#[]⟩ : ByteArray)), (3, .int .i64 0), (5, .string t9), (6, .int .i64 (i64 ((i64 (a0.Tag.Pri * 8192)) + a0.Tag.Vid))), (33, .bool a0.Tag.Dei)]) (fun _ => [(b1, .cells #[.int .u64 a0.Dst, .int .u64 a0.Src, .bool a0.Tag.Has, .int .i64 a0.Tag.Pri, .bool a0.Tag.Dei, .int .i64 a0.Tag.Vid, .int .i64 a0.Type_, .string a0.Body] 29 (0, 0))]) (fun _ => [b1]) (fun _ => by kernel_rfl) (fun _ => ?_)
          refine WP.cond a0.Tag.Dei rfl rfl (fun c12 => ?_) (fun c12 => ?_)
          · replace hM := cond_t hM c12
            refine WP.run [] [1, 2, 3, 5, 6] (fun _ => [(1, .pointer (some ⟨b1, 0, none⟩)), (2, .string (⟨#[]⟩ : ByteArray)), (3, .int .i64 0), (5, .string t9), (6, .int .i64 (i64 ((i64 ((i64 (a0.Tag.Pri * 8192)) + a0.Tag.Vid)) + 4096)))]) (fun _ => [(b1, .cells #[.int .u64 a0.Dst, .int .u64 a0.Src, .bool a0.Tag.Has, .int .i64 a0.Tag.Pri, .bool a0.Tag.Dei, .int .i64 a0.Tag.Vid, .int .i64 a0.Type_, .string a0.Body] 29 (0, 0))]) (fun _ => []) (fun _ => by kernel_rfl) (fun _ => ?_)
            exact WP.sub [1, 2, 3, 5, 6] (by kernel_rfl) (WP.pick [0] (by kernel_rfl) (by kernel_rfl) (K1 (i64 ((i64 ((i64 (a0.Tag.Pri * 8192)) + a0.Tag.Vid)) + 4096)) hM))
          · replace hM := cond_f hM c12
            refine WP.skip ?_
            exact WP.sub [1, 2, 3, 5, 6] (by kernel_rfl) (WP.pick [0] (by kernel_rfl) (by kernel_rfl) (K1 (i64 ((i64 (a0.Tag.Pri * 8192)) + a0.Tag.Vid)) hM))
      · replace hM := cond_f hM c11
        refine WP.skip ?_
        exact WP.sub [1, 2, 3, 5] (by kernel_rfl) (WP.pick [0] (by kernel_rfl) (by kernel_rfl) (K3 t9 hM))

end Go.Proofs.YtbodofjnfmjbpaaGreatDoor

namespace Go.Proofs.YtbodofjnfmjbpaaGreatDoor
open Go Eng
set_option linter.unusedVariables false
set_option linter.unusedSimpArgs false

/-! ### gangway/vxlan.Parse: function 47 -/
def vxlan_Parse.f (k : Nat) (a0 : ByteArray) : Option (Int × ByteArray × Int) :=
  bif decide ((a0.size : Int) < 8) then
    some (0, (⟨#[]⟩ : ByteArray), 80)
  else
    (idxS a0 0).bind fun t2 =>
    bif ((bAnd .u8 t2 8) == 0) then
      some (0, (⟨#[]⟩ : ByteArray), 81)
    else
      (octets_Get.f k a0 4 3).bind fun (r5, r6) =>
      (sliceS a0 8 (a0.size : Int)).bind fun t8 =>
      some (i64 r5, t8, 0)

set_option maxRecDepth 100000 in
theorem vxlan_Parse_calls (k : Nat) (a0 : ByteArray) (r : Int × ByteArray × Int) (h : vxlan_Parse.f k a0 = some r) : Pure Tryz.prog Glob 47 #[.string a0] (.tuple #[.int .i64 r.1, .string r.2.1, .int .i64 r.2.2]) := by
  intro w Z hS
  refine calls_of (args := [.string a0]) (L := [(0, .string a0)]) (N := 25) (S := Sat w Z [] [] Glob) Tryz.func47 rfl rfl (Nat.le_of_ble_eq_true rfl) rfl hS ?_
  have hM := h
  clear h hS
  unfold vxlan_Parse.f at hM
  refine WP.seq ?_
  refine WP.run [] [0, 2, 3, 4] (fun _ => [(0, .string a0), (2, .int .i64 0), (3, .string (⟨#[]⟩ : ByteArray)), (4, .int .i64 0)]) (fun _ => []) (fun _ => []) (fun _ => by kernel_rfl) (fun _ => ?_)
  refine WP.seq ?_
  refine WP.block ?_
  refine WP.seq ?_
  refine WP.run [] [0, 2, 3, 4, 7] (fun _ => [(0, .string a0), (2, .int .i64 0), (3, .string (⟨#[]⟩ : ByteArray)), (4, .int .i64 0), (7, .bool (decide ((a0.size : Int) < 8)))]) (fun _ => []) (fun _ => []) (fun _ => by kernel_rfl) (fun _ => ?_)
  refine WP.cond (decide ((a0.size : Int) < 8)) rfl rfl (fun c1 => ?_) (fun c1 => ?_)
  · replace hM := cond_t hM c1
    refine WP.seq ?_
    refine WP.run [] [0, 2, 3, 4] (fun _ => [(0, .string a0), (2, .int .i64 0), (3, .string (⟨#[]⟩ : ByteArray)), (4, .int .i64 80)]) (fun _ => []) (fun _ => []) (fun _ => by kernel_rfl) (fun _ => ?_)
    obtain rfl := Option.some.inj hM
    exact WP.ret [] [] (.tuple #[.int .i64 0, .string (⟨#[]⟩ : ByteArray), .int .i64 80]) (by kernel_rfl) (fun w' hw => ⟨rfl, hw.pick [] rfl⟩)
  · replace hM := cond_f hM c1
    refine WP.seq ?_
    refine WP.region ?_
    refine WL.run 1 [] [0, 2, 3, 4, 12] (fun _ => [(0, .string a0), (2, .int .i64 0), (3, .string (⟨#[]⟩ : ByteArray)), (4, .int .i64 0), (12, .string a0)]) (fun _ => []) (fun _ => []) (fun _ => by kernel_rfl) (fun _ => ?_)
    obtain ⟨t2, h3, hM⟩ := bind_some hM
    refine WL.val (fun _ => run_idxS (s := a0) (k := .i64) (i := 0) (by kernel_rfl) (by kernel_rfl) (by kernel_rfl) h3) (by kernel_rfl) (by kernel_rfl) rfl ?_
    refine WL.run 3 [] [0, 2, 3, 4, 11] (fun _ => [(0, .string a0), (2, .int .i64 0), (3, .string (⟨#[]⟩ : ByteArray)), (4, .int .i64 0), (11, .bool ((bAnd .u8 t2 8) == 0))]) (fun _ => []) (fun _ => []) (fun _ => by kernel_rfl) (fun _ => ?_)
    refine WP.done ?_
    refine WP.cond ((bAnd .u8 t2 8) == 0) rfl rfl (fun c4 => ?_) (fun c4 => ?_)
    · replace hM := cond_t hM c4
      refine WP.seq ?_
      refine WP.run [] [0, 2, 3, 4] (fun _ => [(0, .string a0), (2, .int .i64 0), (3, .string (⟨#[]⟩ : ByteArray)), (4, .int .i64 81)]) (fun _ => []) (fun _ => []) (fun _ => by kernel_rfl) (fun _ => ?_)
      obtain rfl := Option.some.inj hM
      exact WP.ret [] [] (.tuple #[.int .i64 0, .string (⟨#[]⟩ : ByteArray), .int .i64 81]) (by kernel_rfl) (fun w' hw => ⟨rfl, hw.pick [] rfl⟩)
    · replace hM := cond_f hM c4
      refine WP.skip ?_
      refine WP.leave ?_
      refine WP.seq ?_
      refine WP.region ?_
      refine WL.run 1 [] [0, 2, 3, 4, 17] (fun _ => [(0, .string a0), (2, .int .i64 0), (3, .string (⟨#[]⟩ : ByteArray)), (4, .int .i64 0), (17, .string a0)]) (fun _ => []) (fun _ => []) (fun _ => by kernel_rfl) (fun _ => ?_)
      obtain ⟨⟨r5, r6⟩, h7, hM⟩ := bind_some hM
      dsimp only at hM
      refine WL.callP [] [] (octets_Get_calls k a0 4 3 _ h7) (fun _ h => h) (by kernel_rfl) (by kernel_rfl) rfl ?_
      refine WL.run 5 [] [0, 2, 3, 4, 5] (fun _ => [(0, .string a0), (2, .int .i64 0), (3, .string (⟨#[]⟩ : ByteArray)), (4, .int .i64 0), (5, .int .u64 r5)]) (fun _ => []) (fun _ => []) (fun _ => by kernel_rfl) (fun _ => ?_)
      refine WP.done ?_
      refine WP.seq ?_
      refine WP.quiet (by kernel_rfl) (by kernel_rfl) ?_
      refine QL.run 3 [] [2, 3, 4, 22, 23] [] [(2, .int .i64 0), (3, .string (⟨#[]⟩ : ByteArray)), (4, .int .i64 0), (22, .int .i64 (i64 r5)), (23, .string a0)] (by kernel_rfl) ?_
      obtain ⟨t8, h9, hM⟩ := bind_some hM
      refine QL.val (fun _ => run_sliceS_lo (s := a0) (kl := .i64) (l := 8) (by kernel_rfl) (by kernel_rfl) (by kernel_rfl) h9) (by kernel_rfl) (by kernel_rfl) rfl ?_
      refine QL.run 3 [] [2, 3, 4] [] [(2, .int .i64 (i64 r5)), (3, .string t8), (4, .int .i64 0)] (by kernel_rfl) ?_
      refine QL.done ?_
      obtain rfl := Option.some.inj hM
      exact WP.ret [] [] (.tuple #[.int .i64 (i64 r5), .string t8, .int .i64 0]) (by kernel_rfl) (fun w' hw => ⟨rfl, hw.pick [] rfl⟩)

end Go.Proofs.YtbodofjnfmjbpaaGreatDoor

namespace Go.Proofs.YtbodofjnfmjbpaaGreatDoor
open Go Eng
set_option linter.unusedVariables false
set_option linter.unusedSimpArgs false

/-! ### gangway/vni.By$1: function 80 -/
def vni_By_1.f (a0 : Int) (a0_1 : Int) (a0_2 : (List Int)) (a1 : Int) : Option (Bool) :=
  some (a0_1 == a1)

set_option maxRecDepth 100000 in
theorem vni_By_1_calls (b_0 : Nat) (A00 : SkL Unit) (a0 : Int) (a0_1 : Int) (a0_2 : (List Int)) (a1 : Int) (r : Bool) (h : vni_By_1.f a0 a0_1 a0_2 a1 = some r) : Does Tryz.prog 80 #[.agg #[.int .i64 a0, .int .i64 a0_1, slcV A00 a0_2.length], .pointer (some ⟨b_0, 0, none⟩)] [(b_0, .cells #[.int .i64 a1] 3 (0, 0))] ([Row 1 (pl (encI .u32)) noK A00 a0_2] ++ Glob) (fun _ : Unit => .bool r) (fun _ => [(b_0, .cells #[.int .i64 a1] 3 (0, 0))]) (fun _ => []) (fun _ => ([Row 1 (pl (encI .u32)) noK A00 a0_2] ++ Glob)) := by
  intro w Z hS
  refine calls_of (args := [.agg #[.int .i64 a0, .int .i64 a0_1, slcV A00 a0_2.length], .pointer (some ⟨b_0, 0, none⟩)]) (L := [(0, .agg #[.int .i64 a0, .int .i64 a0_1, slcV A00 a0_2.length]), (1, .pointer (some ⟨b_0, 0, none⟩))]) (N := 8) (S := Sat w Z [(b_0, .cells #[.int .i64 a1] 3 (0, 0))] [] ([Row 1 (pl (encI .u32)) noK A00 a0_2] ++ Glob)) Tryz.func80 rfl rfl (Nat.le_of_ble_eq_true rfl) rfl hS ?_
  have hM := h
  clear h hS
  unfold vni_By_1.f at hM
  refine WP.seq ?_
  refine WP.run [] [1, 2, 3] (fun b1 => [(1, .pointer (some ⟨b_0, 0, none⟩)), (2, .pointer (some ⟨b1, 0, none⟩)), (3, .bool false)]) (fun b1 => [(b_0, .cells #[.int .i64 a1] 3 (0, 0)), (b1, .cells #[.int .i64 a0, .int .i64 a0_1, slcV A00 a0_2.length] 35 (0, 0))]) (fun b1 => []) (fun b1 => by kernel_rfl) (fun b1 => ?_)
  refine WP.seq ?_
  refine WP.run [1, 0] [3] (fun _ => [(3, .bool (a0_1 == a1))]) (fun _ => [(b_0, .cells #[.int .i64 a1] 3 (0, 0)), (b1, .cells #[.int .i64 a0, .int .i64 a0_1, slcV A00 a0_2.length] 35 (0, 0))]) (fun _ => [b_0, b1]) (fun _ => by kernel_rfl) (fun _ => ?_)
  refine WP.keep [true, false] (by kernel_rfl : _ = [(b_0, .cells #[.int .i64 a1] 3 (0, 0))]) ?_
  obtain rfl := Option.some.inj hM
  exact WP.ret [] [] (.bool (a0_1 == a1)) (by kernel_rfl) (fun w' hw => ⟨(), rfl, (hw.pick [0] (by kernel_rfl)).lessF [0] (by kernel_rfl)⟩)

end Go.Proofs.YtbodofjnfmjbpaaGreatDoor

namespace Go.Proofs.YtbodofjnfmjbpaaGreatDoor
open Go Eng
set_option linter.unusedVariables false
set_option linter.unusedSimpArgs false

/-! ### slices.IndexFunc[[]gangway/api.Seg,gangway/api.Seg]: function 103 -/
def api_Seg.l1 (a0 : (List api_Seg)) (a1 : Int) : Nat → Int → Int → Option (Int)
  | 0, _, _ => none
  | n + 1, x1, x2 =>
    bif decide (x2 < (a0.length : Int)) then
      (getL a0.length a0 x2).bind fun t4 =>
      (vni_By_1.f t4.Vid t4.Vni t4.Peers a1).bind fun r6 =>
      bif r6 then
        some x2
      else
        api_Seg.l1 a0 a1 n x1 (i64 (x2 + 1))
    else
      some (-1)

def api_Seg.f (k : Nat) (a0 : (List api_Seg)) (a1 : Int) : Option (Int) :=
  api_Seg.l1 a0 a1 k 0 0

set_option maxRecDepth 100000 in
theorem api_Seg_calls (k : Nat) (b_0 : Nat) (A00 : SkL (SkL Unit)) (a0 : (List api_Seg)) (a1 : Int) (r : Int) (h : api_Seg.f k a0 a1 = some r) : Does Tryz.prog 103 #[slcV A00 a0.length, .func (.func 80) #[] #[.pointer (some ⟨b_0, 0, none⟩)]] [(b_0, .cells #[.int .i64 a1] 3 (0, 0))] ([Row 3 api_Seg.encS api_Seg.inK A00 a0] ++ Glob) (fun _ : Unit => .int .i64 r) (fun _ => [(b_0, .cells #[.int .i64 a1] 3 (0, 0))]) (fun _ => []) (fun _ => ([Row 3 api_Seg.encS api_Seg.inK A00 a0] ++ Glob)) := by
  intro w Z hS
  refine calls_of (args := [slcV A00 a0.length, .func (.func 80) #[] #[.pointer (some ⟨b_0, 0, none⟩)]]) (L := [(0, slcV A00 a0.length), (1, .func (.func 80) #[] #[.pointer (some ⟨b_0, 0, none⟩)])]) (N := 19) (S := Sat w Z [(b_0, .cells #[.int .i64 a1] 3 (0, 0))] [] ([Row 3 api_Seg.encS api_Seg.inK A00 a0] ++ Glob)) Tryz.func103 rfl rfl (Nat.le_of_ble_eq_true rfl) rfl hS ?_
  have hM := h
  clear h hS
  unfold api_Seg.f at hM
  refine WP.seq ?_
  refine WP.run [] [0, 1, 4] (fun _ => [(0, slcV A00 a0.length), (1, .func (.func 80) #[] #[.pointer (some ⟨b_0, 0, none⟩)]), (4, .int .i64 0)]) (fun _ => [(b_0, .cells #[.int .i64 a1] 3 (0, 0))]) (fun _ => []) (fun _ => by kernel_rfl) (fun _ => ?_)
  refine WP.seq ?_
  refine WP.seq ?_
  refine WP.run [] [0, 1, 4, 7, 8] (fun _ => [(0, slcV A00 a0.length), (1, .func (.func 80) #[] #[.pointer (some ⟨b_0, 0, none⟩)]), (4, .int .i64 0), (7, .int .i64 (a0.length : Int)), (8, .int .i64 0)]) (fun _ => [(b_0, .cells #[.int .i64 a1] 3 (0, 0))]) (fun _ => []) (fun _ => by kernel_rfl) (fun _ => ?_)
  refine WP.block ?_
  refine WP.sub [0, 1, 4, 7, 8] (L' := [(0, slcV A00 a0.length), (1, .func (.func 80) #[] #[.pointer (some ⟨b_0, 0, none⟩)]), (4, .int .i64 0), (7, .int .i64 (a0.length : Int)), (8, .int .i64 0)]) (by kernel_rfl) ?_
  refine WP.lessF [0] (F' := [Row 3 api_Seg.encS api_Seg.inK A00 a0]) (by kernel_rfl) ?_
  refine WP.loop (σ := Int × Int) (fun n st => api_Seg.l1 a0 a1 n st.1 st.2) r (fun st => [(0, slcV A00 a0.length), (1, .func (.func 80) #[] #[.pointer (some ⟨b_0, 0, none⟩)]), (4, .int .i64 st.1), (7, .int .i64 (a0.length : Int)), (8, .int .i64 st.2)]) (fun st => Sat w Z [(b_0, .cells #[.int .i64 a1] 3 (0, 0))] [] ([Row 3 api_Seg.encS api_Seg.inK A00 a0] ++ Glob)) (st := (0, 0)) (fun n st hM => ?_) hM
  rcases n with _ | n
  · exact nomatch (show (none : Option _) = some r from hM)
  obtain ⟨x1, x2⟩ := st
  replace hM : api_Seg.l1 a0 a1 (n + 1) x1 x2 = some r := hM
  rw [api_Seg.l1] at hM
  show WP _ _ _ _ _ [(0, slcV A00 a0.length), (1, .func (.func 80) #[] #[.pointer (some ⟨b_0, 0, none⟩)]), (4, .int .i64 x1), (7, .int .i64 (a0.length : Int)), (8, .int .i64 x2)] (Sat w Z [(b_0, .cells #[.int .i64 a1] 3 (0, 0))] [] ([Row 3 api_Seg.encS api_Seg.inK A00 a0] ++ Glob))
  refine WP.seq ?_
  refine WP.run [] [0, 1, 4, 7, 8, 9] (fun _ => [(0, slcV A00 a0.length), (1, .func (.func 80) #[] #[.pointer (some ⟨b_0, 0, none⟩)]), (4, .int .i64 x1), (7, .int .i64 (a0.length : Int)), (8, .int .i64 x2), (9, .bool (decide (x2 < (a0.length : Int))))]) (fun _ => [(b_0, .cells #[.int .i64 a1] 3 (0, 0))]) (fun _ => []) (fun _ => by kernel_rfl) (fun _ => ?_)
  refine WP.seq ?_
  refine WP.cond (decide (x2 < (a0.length : Int))) rfl rfl (fun c3 => ?_) (fun c3 => ?_)
  · replace hM := cond_t hM c3
    refine WP.skip ?_
    refine WP.seq ?_
    refine WP.block ?_
    refine WP.seq ?_
    refine WP.run [] [0, 1, 4, 5, 7, 8, 9, 10] (fun _ => [(0, slcV A00 a0.length), (1, .func (.func 80) #[] #[.pointer (some ⟨b_0, 0, none⟩)]), (4, .int .i64 x1), (5, .int .i64 x2), (7, .int .i64 (a0.length : Int)), (8, .int .i64 x2), (9, .bool (decide (x2 < (a0.length : Int)))), (10, .int .i64 x2)]) (fun _ => [(b_0, .cells #[.int .i64 a1] 3 (0, 0))]) (fun _ => []) (fun _ => by kernel_rfl) (fun _ => ?_)
    refine WP.seq ?_
    refine WP.region ?_
    refine WL.run 3 [] [0, 1, 4, 5, 7, 8, 9, 10, 11, 12, 13] (fun _ => [(0, slcV A00 a0.length), (1, .func (.func 80) #[] #[.pointer (some ⟨b_0, 0, none⟩)]), (4, .int .i64 x1), (5, .int .i64 x2), (7, .int .i64 (a0.length : Int)), (8, .int .i64 x2), (9, .bool (decide (x2 < (a0.length : Int)))), (10, .int .i64 x2), (11, .func (.func 80) #[] #[.pointer (some ⟨b_0, 0, none⟩)]), (12, slcV A00 a0.length), (13, .int .i64 x2)]) (fun _ => [(b_0, .cells #[.int .i64 a1] 3 (0, 0))]) (fun _ => []) (fun _ => by kernel_rfl) (fun _ => ?_)
    obtain ⟨t4, h5, hM⟩ := bind_some hM
    refine WL.valF (φ := Row 3 api_Seg.encS api_Seg.inK A00 a0) (fact_at 0 rfl) (fun w hR => run_indexRowF (A := A00) (xs := a0) (i := x2) (k := .i64) (e := 35) (m := 3) (by kernel_rfl) (by kernel_rfl) h5 (by kernel_rfl) (by kernel_rfl) hR) (by kernel_rfl) (by kernel_rfl) rfl ?_
    refine WL.valF (φ := Row 3 api_Seg.encS api_Seg.inK A00 a0) (fact_at 0 rfl) (fun w hR => run_loadRowFA (A := A00) (xs := a0) (i := x2) (j := 0) (n := 3) (vs := [.int .i64 t4.Vid, .int .i64 t4.Vni, slcV (A00.s (Int.toNat x2)) t4.Peers.length]) h5 (fun _ => by kernel_rfl) (by kernel_rfl) (by kernel_rfl) (by kernel_rfl) rfl hR) (by kernel_rfl) (by kernel_rfl) rfl ?_
    refine WL.know (Row 1 (pl (encI .u32)) noK (A00.s (Int.toNat x2)) t4.Peers) [0] [Row 3 api_Seg.encS api_Seg.inK A00 a0] (by kernel_rfl) (fun w hψ => ((hψ _ (List.mem_singleton.2 rfl)).inner _ _ (getL_parts h5).2)) ?_
    obtain ⟨r6, h7, hM⟩ := bind_some hM
    refine WL.callE (X := Unit) [] [] [true] (fun _ => _) (vni_By_1_calls b_0 (A00.s (Int.toNat x2)) t4.Vid t4.Vni t4.Peers a1 _ h7) rfl rfl (sub_pick [0] (by kernel_rfl)) (by kernel_rfl) (by kernel_rfl) (fun _ => rfl) (fun _ => ?_)
    refine WP.done ?_
    refine WP.cond r6 rfl rfl (fun c8 => ?_) (fun c8 => ?_)
    · replace hM := cond_t hM c8
      refine WP.seq ?_
      refine WP.run [] [0, 1, 4, 5, 7, 8, 9, 10, 11, 12, 13, 14, 15, 16, 17] (fun _ => [(0, slcV A00 a0.length), (1, .func (.func 80) #[] #[.pointer (some ⟨b_0, 0, none⟩)]), (4, .int .i64 x2), (5, .int .i64 x2), (7, .int .i64 (a0.length : Int)), (8, .int .i64 x2), (9, .bool (decide (x2 < (a0.length : Int)))), (10, .int .i64 x2), (11, .func (.func 80) #[] #[.pointer (some ⟨b_0, 0, none⟩)]), (12, slcV A00 a0.length), (13, .int .i64 x2), (14, ptrV A00 (Int.toNat x2 * 3 + 0)), (15, .agg #[.int .i64 t4.Vid, .int .i64 t4.Vni, slcV (A00.s (Int.toNat x2)) t4.Peers.length]), (16, .bool r6), (17, .int .i64 x2)]) (fun _ => [(b_0, .cells #[.int .i64 a1] 3 (0, 0))]) (fun _ => []) (fun _ => by kernel_rfl) (fun _ => ?_)
      obtain rfl := Option.some.inj hM
      exact WP.ret [] [] (.int .i64 x2) (by kernel_rfl) (fun w' hw => ⟨(), rfl, (hw.pick [0] (by kernel_rfl)).lessF [1] (by kernel_rfl)⟩)
    · replace hM := cond_f hM c8
      refine WP.skip ?_
      refine WP.leave ?_
      refine WP.run [] [0, 1, 4, 5, 7, 8, 9, 10, 11, 12, 13, 14, 15, 16, 18] (fun _ => [(0, slcV A00 a0.length), (1, .func (.func 80) #[] #[.pointer (some ⟨b_0, 0, none⟩)]), (4, .int .i64 x1), (5, .int .i64 x2), (7, .int .i64 (a0.length : Int)), (8, .int .i64 (i64 (x2 + 1))), (9, .bool (decide (x2 < (a0.length : Int)))), (10, .int .i64 x2), (11, .func (.func 80) #[] #[.pointer (some ⟨b_0, 0, none⟩)]), (12, slcV A00 a0.length), (13, .int .i64 x2), (14, ptrV A00 (Int.toNat x2 * 3 + 0)), (15, .agg #[.int .i64 t4.Vid, .int .i64 t4.Vni, slcV (A00.s (Int.toNat x2)) t4.Peers.length]), (16, .bool r6), (18, .int .i64 (i64 (x2 + 1)))]) (fun _ => [(b_0, .cells #[.int .i64 a1] 3 (0, 0))]) (fun _ => []) (fun _ => by kernel_rfl) (fun _ => ?_)
      exact WP.again' [0, 1, 4, 7, 8] (x1, i64 (x2 + 1)) hM (by kernel_rfl) (fun _ h => (h.pick [0] (by kernel_rfl)).lessF [1] (by kernel_rfl))
  · replace hM := cond_f hM c3
    refine WP.exit rfl ?_
    refine WP.seq ?_
    refine WP.run [] [4] (fun _ => [(4, .int .i64 (-1))]) (fun _ => [(b_0, .cells #[.int .i64 a1] 3 (0, 0))]) (fun _ => []) (fun _ => by kernel_rfl) (fun _ => ?_)
    obtain rfl := Option.some.inj hM
    exact WP.ret [] [] (.int .i64 (-1)) (by kernel_rfl) (fun w' hw => ⟨(), rfl, (hw.pick [0] (by kernel_rfl)).lessF [0] (by kernel_rfl)⟩)

end Go.Proofs.YtbodofjnfmjbpaaGreatDoor

namespace Go.Proofs.YtbodofjnfmjbpaaGreatDoor
open Go Eng
set_option linter.unusedVariables false
set_option linter.unusedSimpArgs false

/-! ### slices.Clone[[]uint32,uint32]: function 104 -/
def slices_Clone_uint32_uint32.f (a0 : (List Int)) : Option (List Int) := (roomL 4 a0.length).bind fun _ => some a0

set_option maxRecDepth 100000 in
theorem slices_Clone_uint32_uint32_calls (A00 : SkL Unit) (a0 : (List Int)) (r : (List Int)) (h : slices_Clone_uint32_uint32.f a0 = some r) : Does Tryz.prog 104 #[slcV A00 a0.length] [] ([Row 1 (pl (encI .u32)) noK A00 a0] ++ Glob) (fun x : SkL Unit => slcV x r.length) (fun _ => []) (fun _ => []) (fun x => [Row 1 (pl (encI .u32)) noK x r] ++ ([Row 1 (pl (encI .u32)) noK A00 a0] ++ Glob)) := by
  intro w Z hS
  refine calls_of (args := [slcV A00 a0.length]) (L := [(0, slcV A00 a0.length)]) (N := 8) (S := Sat w Z [] [] ([Row 1 (pl (encI .u32)) noK A00 a0] ++ Glob)) Tryz.func104 rfl rfl (Nat.le_of_ble_eq_true rfl) rfl hS ?_
  have hM := h
  clear h hS
  unfold slices_Clone_uint32_uint32.f at hM
  refine WP.fact (Row 1 (pl (encI .u32)) noK A00 a0) (fact_at 0 rfl) (fun w hw => hw.nil) (fun hn => ?_)
  obtain ⟨a, c, s⟩ := A00
  cases a with
  | none =>
    obtain ⟨h1, h2⟩ := hn rfl
    dsimp only at h1 h2
    subst h1; subst h2
    obtain ⟨u0, hu0, hM⟩ := bind_some hM
    obtain rfl := Option.some.inj hM
    show WP _ _ _ _ _ [(0, .slice none 0 0)] (Sat _ _ _ _ ([Row 1 (pl (encI .u32)) noK (⟨none, 0, s⟩ : SkL Unit) ([] : List Int)] ++ Glob))
    refine WP.seq ?_
    refine WP.run [] [0, 2] (fun _ => [(0, .slice none 0 0), (2, .slice none 0 0)]) (fun _ => []) (fun _ => []) (fun _ => by kernel_rfl) (fun _ => ?_)
    refine WP.seq ?_
    refine WP.seq ?_
    refine WP.run [] [0, 2, 4] (fun _ => [(0, .slice none 0 0), (2, .slice none 0 0), (4, .bool true)]) (fun _ => []) (fun _ => []) (fun _ => by kernel_rfl) (fun _ => ?_)
    refine WP.yes rfl rfl ?_
    refine WP.seq ?_
    refine WP.run [] [0, 2] (fun _ => [(0, .slice none 0 0), (2, .slice none 0 0)]) (fun _ => []) (fun _ => []) (fun _ => by kernel_rfl) (fun _ => ?_)
    refine WP.know (Row 1 (pl (encI .u32)) noK (SkL.nil (fun _ => ())) ([] : List Int)) [] [] (by kernel_rfl) (fun w _ => RowP.empty (fun _ => rfl)) ?_
    exact WP.ret [] [] (slcV (SkL.nil (fun _ => ())) ([] : List Int).length) (by kernel_rfl) (fun w' hw => ⟨(SkL.nil (fun _ => ())), rfl, (hw.pick [] (by kernel_rfl)).less (sub_ret [0] [1] (by kernel_rfl) (by kernel_rfl))⟩)
  | some p =>
    obtain ⟨b, o⟩ := p
    refine WP.seq ?_
    refine WP.run [] [0, 2] (fun _ => [(0, slcV (⟨some (b, o), c, s⟩ : SkL Unit) a0.length), (2, .slice none 0 0)]) (fun _ => []) (fun _ => []) (fun _ => by kernel_rfl) (fun _ => ?_)
    refine WP.seq ?_
    refine WP.seq ?_
    refine WP.run [] [0, 2, 4] (fun _ => [(0, slcV (⟨some (b, o), c, s⟩ : SkL Unit) a0.length), (2, .slice none 0 0), (4, .bool false)]) (fun _ => []) (fun _ => []) (fun _ => by kernel_rfl) (fun _ => ?_)
    refine WP.no rfl rfl ?_
    refine WP.skip ?_
    refine WP.seq ?_
    refine WP.region ?_
    refine WL.run 2 [] [2, 5, 6] (fun b1 => [(2, .slice none 0 0), (5, .slice (some ⟨b1, 0, none⟩) 0 0), (6, slcV (⟨some (b, o), c, s⟩ : SkL Unit) a0.length)]) (fun b1 => [(b1, .cells #[] 22 (0, 0))]) (fun b1 => []) (fun b1 => by kernel_rfl) (fun b1 => ?_)
    obtain ⟨u3, h2, hM⟩ := bind_some hM
    refine WL.appendCopy (A := (SkL.at b1 0 (fun _ => ()))) (B := (⟨some (b, o), c, s⟩ : SkL Unit)) (ys := a0) (n := 0) (m := 1) (by_ := 4) (e := 22) (z := .int .u32 0) (f := (pl (encI .u32))) (K := noK) (d := 7) rfl rfl (by kernel_rfl) (by kernel_rfl) (by kernel_rfl) (fun _ _ => rfl) (by kernel_rfl) (by kernel_rfl) rfl rfl (by kernel_rfl) (fact_at 0 rfl) h2 (by kernel_rfl) (fun A4 => ?_)
    refine WL.less (Φ' := [Row 1 (pl (encI .u32)) noK A4 a0, Row 1 (pl (encI .u32)) noK (⟨some (b, o), c, s⟩ : SkL Unit) a0] ++ Glob) (fun _ h => h) ?_
    refine WL.run 1 [] [2] (fun _ => [(2, slcV A4 a0.length)]) (fun _ => [(b1, .cells #[] 22 (0, 0))]) (fun _ => []) (fun _ => by kernel_rfl) (fun _ => ?_)
    refine WP.done ?_
    refine WP.keep [false] (by kernel_rfl : _ = []) ?_
    obtain rfl := Option.some.inj hM
    exact WP.ret [] [] (slcV A4 a0.length) (by kernel_rfl) (fun w' hw => ⟨A4, rfl, (hw.pick [] (by kernel_rfl)).less (sub_ret [0] [1] (by kernel_rfl) (by kernel_rfl))⟩)

end Go.Proofs.YtbodofjnfmjbpaaGreatDoor

namespace Go.Proofs.YtbodofjnfmjbpaaGreatDoor
open Go Eng
set_option linter.unusedVariables false
set_option linter.unusedSimpArgs false

/-! ### gangway/vni.first: function 79 -/
def vni_first.f (k : Nat) (a0 : (List api_Seg)) (a1 : Int) : Option (api_Seg × Bool) :=
  (api_Seg.f k a0 a1).bind fun r2 =>
  bif decide (r2 < 0) then
    some ((api_Seg.mk 0 0 ([] : List Int)), false)
  else
    (getL a0.length a0 r2).bind fun t5 =>
    (slices_Clone_uint32_uint32.f t5.Peers).bind fun r8 =>
    some ((api_Seg.mk t5.Vid t5.Vni r8), true)

set_option maxRecDepth 100000 in
theorem vni_first_calls (k : Nat) (b_0 : Nat) (A00 : SkL (SkL Unit)) (a0 : (List api_Seg)) (a1 : Int) (r : api_Seg × Bool) (h : vni_first.f k a0 a1 = some r) : Does Tryz.prog 79 #[slcV A00 a0.length, .func (.func 80) #[] #[.pointer (some ⟨b_0, 0, none⟩)]] [(b_0, .cells #[.int .i64 a1] 3 (0, 0))] ([Row 3 api_Seg.encS api_Seg.inK A00 a0] ++ Glob) (fun x : (SkL Unit) => .tuple #[.agg #[.int .i64 r.1.Vid, .int .i64 r.1.Vni, slcV x r.1.Peers.length], .bool r.2]) (fun x => [(b_0, .cells #[.int .i64 a1] 3 (0, 0))]) (fun _ => []) (fun x => [Row 1 (pl (encI .u32)) noK x r.1.Peers] ++ ([Row 3 api_Seg.encS api_Seg.inK A00 a0] ++ Glob)) := by
  intro w Z hS
  refine calls_of (args := [slcV A00 a0.length, .func (.func 80) #[] #[.pointer (some ⟨b_0, 0, none⟩)]]) (L := [(0, slcV A00 a0.length), (1, .func (.func 80) #[] #[.pointer (some ⟨b_0, 0, none⟩)])]) (N := 23) (S := Sat w Z [(b_0, .cells #[.int .i64 a1] 3 (0, 0))] [] ([Row 3 api_Seg.encS api_Seg.inK A00 a0] ++ Glob)) Tryz.func79 rfl rfl (Nat.le_of_ble_eq_true rfl) rfl hS ?_
  have hM := h
  clear h hS
  unfold vni_first.f at hM
  refine WP.seq ?_
  refine WP.run [] [0, 1, 4, 5] (fun b1 => [(0, slcV A00 a0.length), (1, .func (.func 80) #[] #[.pointer (some ⟨b_0, 0, none⟩)]), (4, .pointer (some ⟨b1, 0, none⟩)), (5, .bool false)]) (fun b1 => [(b_0, .cells #[.int .i64 a1] 3 (0, 0)), (b1, .cells #[.int .i64 0, .int .i64 0, .slice none 0 0] 35 (0, 0))]) (fun b1 => []) (fun b1 => by kernel_rfl) (fun b1 => ?_)
  refine WP.seq ?_
  refine WP.region ?_
  refine WL.run 2 [] [0, 4, 5, 8, 9] (fun _ => [(0, slcV A00 a0.length), (4, .pointer (some ⟨b1, 0, none⟩)), (5, .bool false), (8, slcV A00 a0.length), (9, .func (.func 80) #[] #[.pointer (some ⟨b_0, 0, none⟩)])]) (fun _ => [(b_0, .cells #[.int .i64 a1] 3 (0, 0)), (b1, .cells #[.int .i64 0, .int .i64 0, .slice none 0 0] 35 (0, 0))]) (fun _ => []) (fun _ => by kernel_rfl) (fun _ => ?_)
  obtain ⟨r2, h3, hM⟩ := bind_some hM
  refine WL.callE (X := Unit) [] [] [true, false] (fun _ => _) (api_Seg_calls k b_0 A00 a0 a1 _ h3) rfl rfl (sub_pick [0] (by kernel_rfl)) (by kernel_rfl) (by kernel_rfl) (fun _ => rfl) (fun _ => ?_)
  refine WL.run 1 [] [0, 4, 5, 6] (fun _ => [(0, slcV A00 a0.length), (4, .pointer (some ⟨b1, 0, none⟩)), (5, .bool false), (6, .int .i64 r2)]) (fun _ => [(b_0, .cells #[.int .i64 a1] 3 (0, 0)), (b1, .cells #[.int .i64 0, .int .i64 0, .slice none 0 0] 35 (0, 0))]) (fun _ => []) (fun _ => by kernel_rfl) (fun _ => ?_)
  refine WP.done ?_
  refine WP.seq ?_
  refine WP.seq ?_
  refine WP.run [] [0, 4, 5, 6, 12] (fun _ => [(0, slcV A00 a0.length), (4, .pointer (some ⟨b1, 0, none⟩)), (5, .bool false), (6, .int .i64 r2), (12, .bool (decide (r2 < 0)))]) (fun _ => [(b_0, .cells #[.int .i64 a1] 3 (0, 0)), (b1, .cells #[.int .i64 0, .int .i64 0, .slice none 0 0] 35 (0, 0))]) (fun _ => []) (fun _ => by kernel_rfl) (fun _ => ?_)
  refine WP.cond (decide (r2 < 0)) rfl rfl (fun c4 => ?_) (fun c4 => ?_)
  · replace hM := cond_t hM c4
    refine WP.seq ?_
    refine WP.run [1, 1, 1] [0, 4, 5, 6] (fun _ => [(0, slcV A00 a0.length), (4, .pointer (some ⟨b1, 0, none⟩)), (5, .bool false), (6, .int .i64 r2)]) (fun _ => [(b_0, .cells #[.int .i64 a1] 3 (0, 0)), (b1, .cells #[.int .i64 0, .int .i64 0, .slice none 0 0] 35 (0, 0))]) (fun _ => [b1, b1, b1]) (fun _ => by kernel_rfl) (fun _ => ?_)
    refine WP.know (Row 1 (pl (encI .u32)) noK (SkL.nil (fun _ => ())) ([] : List Int)) [] [] (by kernel_rfl) (fun w _ => RowP.empty (fun _ => rfl)) ?_
    obtain rfl := Option.some.inj hM
    exact WP.ret [1, 1, 1] [b1, b1, b1] (.tuple #[.agg #[.int .i64 0, .int .i64 0, slcV (SkL.nil (fun _ => ())) ([] : List Int).length], .bool false]) (by kernel_rfl) (fun w' hw => ⟨(SkL.nil (fun _ => ())), rfl, (hw.pick [0] (by kernel_rfl)).less (sub_ret [0] [1] (by kernel_rfl) (by kernel_rfl))⟩)
  · replace hM := cond_f hM c4
    refine WP.skip ?_
    refine WP.seq ?_
    refine WP.region ?_
    refine WL.run 2 [] [4, 5, 14, 15] (fun _ => [(4, .pointer (some ⟨b1, 0, none⟩)), (5, .bool false), (14, slcV A00 a0.length), (15, .int .i64 r2)]) (fun _ => [(b_0, .cells #[.int .i64 a1] 3 (0, 0)), (b1, .cells #[.int .i64 0, .int .i64 0, .slice none 0 0] 35 (0, 0))]) (fun _ => []) (fun _ => by kernel_rfl) (fun _ => ?_)
    obtain ⟨t5, h6, hM⟩ := bind_some hM
    refine WL.valF (φ := Row 3 api_Seg.encS api_Seg.inK A00 a0) (fact_at 0 rfl) (fun w hR => run_indexRowF (A := A00) (xs := a0) (i := r2) (k := .i64) (e := 35) (m := 3) (by kernel_rfl) (by kernel_rfl) h6 (by kernel_rfl) (by kernel_rfl) hR) (by kernel_rfl) (by kernel_rfl) rfl ?_
    refine WL.valF (φ := Row 3 api_Seg.encS api_Seg.inK A00 a0) (fact_at 0 rfl) (fun w hR => run_loadRowFA (A := A00) (xs := a0) (i := r2) (j := 0) (n := 3) (vs := [.int .i64 t5.Vid, .int .i64 t5.Vni, slcV (A00.s (Int.toNat r2)) t5.Peers.length]) h6 (fun _ => by kernel_rfl) (by kernel_rfl) (by kernel_rfl) (by kernel_rfl) rfl hR) (by kernel_rfl) (by kernel_rfl) rfl ?_
    refine WL.know (Row 1 (pl (encI .u32)) noK (A00.s (Int.toNat r2)) t5.Peers) [0] [Row 3 api_Seg.encS api_Seg.inK A00 a0] (by kernel_rfl) (fun w hψ => ((hψ _ (List.mem_singleton.2 rfl)).inner _ _ (getL_parts h6).2)) ?_
    refine WL.run 2 [2, 2, 2] [4, 5, 7] (fun b7 => [(4, .pointer (some ⟨b1, 0, none⟩)), (5, .bool false), (7, .pointer (some ⟨b7, 0, none⟩))]) (fun b7 => [(b_0, .cells #[.int .i64 a1] 3 (0, 0)), (b1, .cells #[.int .i64 0, .int .i64 0, .slice none 0 0] 35 (0, 0)), (b7, .cells #[.int .i64 t5.Vid, .int .i64 t5.Vni, slcV (A00.s (Int.toNat r2)) t5.Peers.length] 35 (0, 0))]) (fun b7 => [b7, b7, b7]) (fun b7 => by kernel_rfl) (fun b7 => ?_)
    refine WP.done ?_
    refine WP.seq ?_
    refine WP.region ?_
    refine WL.run 2 [2] [4, 5, 7, 19] (fun _ => [(4, .pointer (some ⟨b1, 0, none⟩)), (5, .bool false), (7, .pointer (some ⟨b7, 0, none⟩)), (19, slcV (A00.s (Int.toNat r2)) t5.Peers.length)]) (fun _ => [(b_0, .cells #[.int .i64 a1] 3 (0, 0)), (b1, .cells #[.int .i64 0, .int .i64 0, .slice none 0 0] 35 (0, 0)), (b7, .cells #[.int .i64 t5.Vid, .int .i64 t5.Vni, slcV (A00.s (Int.toNat r2)) t5.Peers.length] 35 (0, 0))]) (fun _ => [b7]) (fun _ => by kernel_rfl) (fun _ => ?_)
    obtain ⟨r8, h9, hM⟩ := bind_some hM
    refine WL.callX (F0 := [Row 1 (pl (encI .u32)) noK (A00.s (Int.toNat r2)) t5.Peers]) [] [] [false, false, false] (fun _ => _) [0] (by kernel_rfl) (slices_Clone_uint32_uint32_calls (A00.s (Int.toNat r2)) t5.Peers _ h9) rfl rfl (by kernel_rfl) (by kernel_rfl) (fun _ => rfl) (fun A10 => ?_)
    refine WL.run 2 [2] [4, 5, 7] (fun _ => [(4, .pointer (some ⟨b1, 0, none⟩)), (5, .bool false), (7, .pointer (some ⟨b7, 0, none⟩))]) (fun _ => [(b_0, .cells #[.int .i64 a1] 3 (0, 0)), (b1, .cells #[.int .i64 0, .int .i64 0, .slice none 0 0] 35 (0, 0)), (b7, .cells #[.int .i64 t5.Vid, .int .i64 t5.Vni, slcV A10 r8.length] 35 (0, 0))]) (fun _ => [b7]) (fun _ => by kernel_rfl) (fun _ => ?_)
    refine WP.done ?_
    refine WP.seq ?_
    refine WP.run [2, 2, 2, 1, 1, 1] [4, 5] (fun _ => [(4, .pointer (some ⟨b1, 0, none⟩)), (5, .bool true)]) (fun _ => [(b_0, .cells #[.int .i64 a1] 3 (0, 0)), (b1, .cells #[.int .i64 t5.Vid, .int .i64 t5.Vni, slcV A10 r8.length] 35 (0, 0)), (b7, .cells #[.int .i64 t5.Vid, .int .i64 t5.Vni, slcV A10 r8.length] 35 (0, 0))]) (fun _ => [b1, b1, b1, b7, b7, b7]) (fun _ => by kernel_rfl) (fun _ => ?_)
    refine WP.keep [true, true, false] (by kernel_rfl : _ = [(b_0, .cells #[.int .i64 a1] 3 (0, 0)), (b1, .cells #[.int .i64 t5.Vid, .int .i64 t5.Vni, slcV A10 r8.length] 35 (0, 0))]) ?_
    obtain rfl := Option.some.inj hM
    exact WP.ret [1, 1, 1] [b1, b1, b1] (.tuple #[.agg #[.int .i64 t5.Vid, .int .i64 t5.Vni, slcV A10 r8.length], .bool true]) (by kernel_rfl) (fun w' hw => ⟨A10, rfl, (hw.pick [0] (by kernel_rfl)).less (sub_ret [0] [2] (by kernel_rfl) (by kernel_rfl))⟩)

end Go.Proofs.YtbodofjnfmjbpaaGreatDoor

namespace Go.Proofs.YtbodofjnfmjbpaaGreatDoor
open Go Eng
set_option linter.unusedVariables false
set_option linter.unusedSimpArgs false

/-! ### gangway/vni.By: function 48 -/
def vni_By.f (k : Nat) (a0 : (List api_Seg)) (a1 : Int) : Option (api_Seg × Bool) :=
  (vni_first.f k a0 a1).bind fun (r2, r3) =>
  some (r2, r3)

set_option maxRecDepth 100000 in
theorem vni_By_calls (k : Nat) (A00 : SkL (SkL Unit)) (a0 : (List api_Seg)) (a1 : Int) (r : api_Seg × Bool) (h : vni_By.f k a0 a1 = some r) : Does Tryz.prog 48 #[slcV A00 a0.length, .int .i64 a1] [] ([Row 3 api_Seg.encS api_Seg.inK A00 a0] ++ Glob) (fun x : (SkL Unit) => .tuple #[.agg #[.int .i64 r.1.Vid, .int .i64 r.1.Vni, slcV x r.1.Peers.length], .bool r.2]) (fun x => []) (fun _ => []) (fun x => [Row 1 (pl (encI .u32)) noK x r.1.Peers] ++ ([Row 3 api_Seg.encS api_Seg.inK A00 a0] ++ Glob)) := by
  intro w Z hS
  refine calls_of (args := [slcV A00 a0.length, .int .i64 a1]) (L := [(0, slcV A00 a0.length), (1, .int .i64 a1)]) (N := 11) (S := Sat w Z [] [] ([Row 3 api_Seg.encS api_Seg.inK A00 a0] ++ Glob)) Tryz.func48 rfl rfl (Nat.le_of_ble_eq_true rfl) rfl hS ?_
  have hM := h
  clear h hS
  unfold vni_By.f at hM
  refine WP.seq ?_
  refine WP.run [] [0, 3, 4, 5] (fun b1 => [(0, slcV A00 a0.length), (3, .pointer (some ⟨b1, 0, none⟩)), (4, .pointer (some ⟨(b1 + 1), 0, none⟩)), (5, .bool false)]) (fun b1 => [(b1, .cells #[.int .i64 a1] 3 (0, 0)), ((b1 + 1), .cells #[.int .i64 0, .int .i64 0, .slice none 0 0] 35 (0, 0))]) (fun b1 => []) (fun b1 => by kernel_rfl) (fun b1 => ?_)
  refine WP.seq ?_
  refine WP.region ?_
  refine WL.run 2 [] [4, 5, 6, 7] (fun _ => [(4, .pointer (some ⟨(b1 + 1), 0, none⟩)), (5, .bool false), (6, slcV A00 a0.length), (7, .func (.func 80) #[] #[.pointer (some ⟨b1, 0, none⟩)])]) (fun _ => [(b1, .cells #[.int .i64 a1] 3 (0, 0)), ((b1 + 1), .cells #[.int .i64 0, .int .i64 0, .slice none 0 0] 35 (0, 0))]) (fun _ => []) (fun _ => by kernel_rfl) (fun _ => ?_)
  obtain ⟨⟨r2, r3⟩, h4, hM⟩ := bind_some hM
  dsimp only at hM
  refine WL.callX (F0 := [Row 3 api_Seg.encS api_Seg.inK A00 a0]) [] [] [true, false] (fun _ => _) [0] (by kernel_rfl) (vni_first_calls k b1 A00 a0 a1 _ h4) rfl rfl (by kernel_rfl) (by kernel_rfl) (fun _ => rfl) (fun A5 => ?_)
  refine WL.run 4 [1, 1, 1] [4, 5] (fun _ => [(4, .pointer (some ⟨(b1 + 1), 0, none⟩)), (5, .bool r3)]) (fun _ => [(b1, .cells #[.int .i64 a1] 3 (0, 0)), ((b1 + 1), .cells #[.int .i64 r2.Vid, .int .i64 r2.Vni, slcV A5 r2.Peers.length] 35 (0, 0))]) (fun _ => [(b1 + 1), (b1 + 1), (b1 + 1)]) (fun _ => by kernel_rfl) (fun _ => ?_)
  refine WP.done ?_
  refine WP.keep [false, true] (by kernel_rfl : _ = [((b1 + 1), .cells #[.int .i64 r2.Vid, .int .i64 r2.Vni, slcV A5 r2.Peers.length] 35 (0, 0))]) ?_
  obtain rfl := Option.some.inj hM
  exact WP.ret [0, 0, 0] [(b1 + 1), (b1 + 1), (b1 + 1)] (.tuple #[.agg #[.int .i64 r2.Vid, .int .i64 r2.Vni, slcV A5 r2.Peers.length], .bool r3]) (by kernel_rfl) (fun w' hw => ⟨A5, rfl, (hw.pick [] (by kernel_rfl)).less (sub_ret [0] [1] (by kernel_rfl) (by kernel_rfl))⟩)

end Go.Proofs.YtbodofjnfmjbpaaGreatDoor

namespace Go.Proofs.YtbodofjnfmjbpaaGreatDoor
open Go Eng
set_option linter.unusedVariables false
set_option linter.unusedSimpArgs false

/-! ### slices.Index[[]uint32,uint32]: function 105 -/
def slices_Index_uint32_uint32.l1 (a0 : (List Int)) (a1 : Int) : Nat → Int → Int → Option (Int)
  | 0, _, _ => none
  | n + 1, x1, x2 =>
    bif decide (x2 < (a0.length : Int)) then
      (getL a0.length a0 x2).bind fun t4 =>
      bif (a1 == t4) then
        some x2
      else
        slices_Index_uint32_uint32.l1 a0 a1 n x1 (i64 (x2 + 1))
    else
      some (-1)

def slices_Index_uint32_uint32.f (k : Nat) (a0 : (List Int)) (a1 : Int) : Option (Int) :=
  slices_Index_uint32_uint32.l1 a0 a1 k 0 0

set_option maxRecDepth 100000 in
theorem slices_Index_uint32_uint32_calls (k : Nat) (A00 : SkL Unit) (a0 : (List Int)) (a1 : Int) (r : Int) (h : slices_Index_uint32_uint32.f k a0 a1 = some r) : Pure Tryz.prog ([Row 1 (pl (encI .u32)) noK A00 a0] ++ Glob) 105 #[slcV A00 a0.length, .int .u32 a1] (.int .i64 r) := by
  intro w Z hS
  refine calls_of (args := [slcV A00 a0.length, .int .u32 a1]) (L := [(0, slcV A00 a0.length), (1, .int .u32 a1)]) (N := 19) (S := Sat w Z [] [] ([Row 1 (pl (encI .u32)) noK A00 a0] ++ Glob)) Tryz.func105 rfl rfl (Nat.le_of_ble_eq_true rfl) rfl hS ?_
  have hM := h
  clear h hS
  unfold slices_Index_uint32_uint32.f at hM
  refine WP.seq ?_
  refine WP.run [] [0, 1, 4] (fun _ => [(0, slcV A00 a0.length), (1, .int .u32 a1), (4, .int .i64 0)]) (fun _ => []) (fun _ => []) (fun _ => by kernel_rfl) (fun _ => ?_)
  refine WP.seq ?_
  refine WP.seq ?_
  refine WP.run [] [0, 1, 4, 7, 8] (fun _ => [(0, slcV A00 a0.length), (1, .int .u32 a1), (4, .int .i64 0), (7, .int .i64 (a0.length : Int)), (8, .int .i64 0)]) (fun _ => []) (fun _ => []) (fun _ => by kernel_rfl) (fun _ => ?_)
  refine WP.block ?_
  refine WP.sub [0, 1, 4, 7, 8] (L' := [(0, slcV A00 a0.length), (1, .int .u32 a1), (4, .int .i64 0), (7, .int .i64 (a0.length : Int)), (8, .int .i64 0)]) (by kernel_rfl) ?_
  refine WP.lessF [0] (F' := [Row 1 (pl (encI .u32)) noK A00 a0]) (by kernel_rfl) ?_
  refine WP.loop (σ := Int × Int) (fun n st => slices_Index_uint32_uint32.l1 a0 a1 n st.1 st.2) r (fun st => [(0, slcV A00 a0.length), (1, .int .u32 a1), (4, .int .i64 st.1), (7, .int .i64 (a0.length : Int)), (8, .int .i64 st.2)]) (fun st => Sat w Z [] [] ([Row 1 (pl (encI .u32)) noK A00 a0] ++ Glob)) (st := (0, 0)) (fun n st hM => ?_) hM
  rcases n with _ | n
  · exact nomatch (show (none : Option _) = some r from hM)
  obtain ⟨x1, x2⟩ := st
  replace hM : slices_Index_uint32_uint32.l1 a0 a1 (n + 1) x1 x2 = some r := hM
  rw [slices_Index_uint32_uint32.l1] at hM
  show WP _ _ _ _ _ [(0, slcV A00 a0.length), (1, .int .u32 a1), (4, .int .i64 x1), (7, .int .i64 (a0.length : Int)), (8, .int .i64 x2)] (Sat w Z [] [] ([Row 1 (pl (encI .u32)) noK A00 a0] ++ Glob))
  refine WP.seq ?_
  refine WP.run [] [0, 1, 4, 7, 8, 9] (fun _ => [(0, slcV A00 a0.length), (1, .int .u32 a1), (4, .int .i64 x1), (7, .int .i64 (a0.length : Int)), (8, .int .i64 x2), (9, .bool (decide (x2 < (a0.length : Int))))]) (fun _ => []) (fun _ => []) (fun _ => by kernel_rfl) (fun _ => ?_)
  refine WP.seq ?_
  refine WP.cond (decide (x2 < (a0.length : Int))) rfl rfl (fun c3 => ?_) (fun c3 => ?_)
  · replace hM := cond_t hM c3
    refine WP.skip ?_
    refine WP.seq ?_
    refine WP.block ?_
    refine WP.seq ?_
    refine WP.run [] [0, 1, 4, 5, 7, 8, 9, 10] (fun _ => [(0, slcV A00 a0.length), (1, .int .u32 a1), (4, .int .i64 x1), (5, .int .i64 x2), (7, .int .i64 (a0.length : Int)), (8, .int .i64 x2), (9, .bool (decide (x2 < (a0.length : Int)))), (10, .int .i64 x2)]) (fun _ => []) (fun _ => []) (fun _ => by kernel_rfl) (fun _ => ?_)
    refine WP.seq ?_
    refine WP.region ?_
    refine WL.run 3 [] [0, 1, 4, 5, 7, 8, 9, 10, 11, 12, 13] (fun _ => [(0, slcV A00 a0.length), (1, .int .u32 a1), (4, .int .i64 x1), (5, .int .i64 x2), (7, .int .i64 (a0.length : Int)), (8, .int .i64 x2), (9, .bool (decide (x2 < (a0.length : Int)))), (10, .int .i64 x2), (11, .int .u32 a1), (12, slcV A00 a0.length), (13, .int .i64 x2)]) (fun _ => []) (fun _ => []) (fun _ => by kernel_rfl) (fun _ => ?_)
    obtain ⟨t4, h5, hM⟩ := bind_some hM
    refine WL.valF (φ := Row 1 (pl (encI .u32)) noK A00 a0) (fact_at 0 rfl) (fun w hR => run_indexRowF (A := A00) (xs := a0) (i := x2) (k := .i64) (e := 22) (m := 1) (by kernel_rfl) (by kernel_rfl) h5 (by kernel_rfl) (by kernel_rfl) hR) (by kernel_rfl) (by kernel_rfl) rfl ?_
    refine WL.valF (φ := Row 1 (pl (encI .u32)) noK A00 a0) (fact_at 0 rfl) (fun w hR => run_loadRowF (A := A00) (xs := a0) (i := x2) (j := 0) (v := .int .u32 t4) h5 (fun _ => by kernel_rfl) (by kernel_rfl) (by kernel_rfl) hR) (by kernel_rfl) (by kernel_rfl) rfl ?_
    refine WL.run 1 [] [0, 1, 4, 5, 7, 8, 9, 10, 11, 12, 13, 14, 15, 16] (fun _ => [(0, slcV A00 a0.length), (1, .int .u32 a1), (4, .int .i64 x1), (5, .int .i64 x2), (7, .int .i64 (a0.length : Int)), (8, .int .i64 x2), (9, .bool (decide (x2 < (a0.length : Int)))), (10, .int .i64 x2), (11, .int .u32 a1), (12, slcV A00 a0.length), (13, .int .i64 x2), (14, ptrV A00 (Int.toNat x2 * 1 + 0)), (15, .int .u32 t4), (16, .bool (a1 == t4))]) (fun _ => []) (fun _ => []) (fun _ => by kernel_rfl) (fun _ => ?_)
    refine WP.done ?_
    refine WP.cond (a1 == t4) rfl rfl (fun c6 => ?_) (fun c6 => ?_)
    · replace hM := cond_t hM c6
      refine WP.seq ?_
      refine WP.run [] [0, 1, 4, 5, 7, 8, 9, 10, 11, 12, 13, 14, 15, 16, 17] (fun _ => [(0, slcV A00 a0.length), (1, .int .u32 a1), (4, .int .i64 x2), (5, .int .i64 x2), (7, .int .i64 (a0.length : Int)), (8, .int .i64 x2), (9, .bool (decide (x2 < (a0.length : Int)))), (10, .int .i64 x2), (11, .int .u32 a1), (12, slcV A00 a0.length), (13, .int .i64 x2), (14, ptrV A00 (Int.toNat x2 * 1 + 0)), (15, .int .u32 t4), (16, .bool (a1 == t4)), (17, .int .i64 x2)]) (fun _ => []) (fun _ => []) (fun _ => by kernel_rfl) (fun _ => ?_)
      obtain rfl := Option.some.inj hM
      exact WP.ret [] [] (.int .i64 x2) (by kernel_rfl) (fun w' hw => ⟨rfl, (hw.pick [] rfl).lessF [0] (by kernel_rfl)⟩)
    · replace hM := cond_f hM c6
      refine WP.skip ?_
      refine WP.leave ?_
      refine WP.run [] [0, 1, 4, 5, 7, 8, 9, 10, 11, 12, 13, 14, 15, 16, 18] (fun _ => [(0, slcV A00 a0.length), (1, .int .u32 a1), (4, .int .i64 x1), (5, .int .i64 x2), (7, .int .i64 (a0.length : Int)), (8, .int .i64 (i64 (x2 + 1))), (9, .bool (decide (x2 < (a0.length : Int)))), (10, .int .i64 x2), (11, .int .u32 a1), (12, slcV A00 a0.length), (13, .int .i64 x2), (14, ptrV A00 (Int.toNat x2 * 1 + 0)), (15, .int .u32 t4), (16, .bool (a1 == t4)), (18, .int .i64 (i64 (x2 + 1)))]) (fun _ => []) (fun _ => []) (fun _ => by kernel_rfl) (fun _ => ?_)
      exact WP.again' [0, 1, 4, 7, 8] (x1, i64 (x2 + 1)) hM (by kernel_rfl) (fun _ h => (h.pick [] (by kernel_rfl)).lessF [0] (by kernel_rfl))
  · replace hM := cond_f hM c3
    refine WP.exit rfl ?_
    refine WP.seq ?_
    refine WP.run [] [4] (fun _ => [(4, .int .i64 (-1))]) (fun _ => []) (fun _ => []) (fun _ => by kernel_rfl) (fun _ => ?_)
    obtain rfl := Option.some.inj hM
    exact WP.ret [] [] (.int .i64 (-1)) (by kernel_rfl) (fun w' hw => ⟨rfl, (hw.pick [] rfl).lessF [0] (by kernel_rfl)⟩)

end Go.Proofs.YtbodofjnfmjbpaaGreatDoor

namespace Go.Proofs.YtbodofjnfmjbpaaGreatDoor
open Go Eng
set_option linter.unusedVariables false
set_option linter.unusedSimpArgs false

/-! ### slices.Contains[[]uint32,uint32]: function 81 -/
def slices_Contains_uint32_uint32.f (k : Nat) (a0 : (List Int)) (a1 : Int) : Option (Bool) :=
  (slices_Index_uint32_uint32.f k a0 a1).bind fun r1 =>
  some (decide (r1 ≥ 0))

set_option maxRecDepth 100000 in
theorem slices_Contains_uint32_uint32_calls (k : Nat) (A00 : SkL Unit) (a0 : (List Int)) (a1 : Int) (r : Bool) (h : slices_Contains_uint32_uint32.f k a0 a1 = some r) : Pure Tryz.prog ([Row 1 (pl (encI .u32)) noK A00 a0] ++ Glob) 81 #[slcV A00 a0.length, .int .u32 a1] (.bool r) := by
  intro w Z hS
  refine calls_of (args := [slcV A00 a0.length, .int .u32 a1]) (L := [(0, slcV A00 a0.length), (1, .int .u32 a1)]) (N := 9) (S := Sat w Z [] [] ([Row 1 (pl (encI .u32)) noK A00 a0] ++ Glob)) Tryz.func81 rfl rfl (Nat.le_of_ble_eq_true rfl) rfl hS ?_
  have hM := h
  clear h hS
  unfold slices_Contains_uint32_uint32.f at hM
  refine WP.seq ?_
  refine WP.run [] [0, 1, 4] (fun _ => [(0, slcV A00 a0.length), (1, .int .u32 a1), (4, .bool false)]) (fun _ => []) (fun _ => []) (fun _ => by kernel_rfl) (fun _ => ?_)
  refine WP.seq ?_
  refine WP.region ?_
  refine WL.run 2 [] [4, 5, 6] (fun _ => [(4, .bool false), (5, slcV A00 a0.length), (6, .int .u32 a1)]) (fun _ => []) (fun _ => []) (fun _ => by kernel_rfl) (fun _ => ?_)
  obtain ⟨r1, h2, hM⟩ := bind_some hM
  refine WL.callP [] [] (slices_Index_uint32_uint32_calls k A00 a0 a1 _ h2) (sub_pick [0] (by kernel_rfl)) (by kernel_rfl) (by kernel_rfl) rfl ?_
  refine WL.run 2 [] [4] (fun _ => [(4, .bool (decide (r1 ≥ 0)))]) (fun _ => []) (fun _ => []) (fun _ => by kernel_rfl) (fun _ => ?_)
  refine WP.done ?_
  obtain rfl := Option.some.inj hM
  exact WP.ret [] [] (.bool (decide (r1 ≥ 0))) (by kernel_rfl) (fun w' hw => ⟨rfl, (hw.pick [] rfl).lessF [0] (by kernel_rfl)⟩)

end Go.Proofs.YtbodofjnfmjbpaaGreatDoor

namespace Go.Proofs.YtbodofjnfmjbpaaGreatDoor
open Go Eng
set_option linter.unusedVariables false
set_option linter.unusedSimpArgs false

/-! ### gangway/vni.Peer: function 49 -/
def vni_Peer.k1 (x9 : Bool) : Option (Bool) :=
  some x9

def vni_Peer.f (k : Nat) (a0 : (List api_Seg)) (a1 : Int) (a2 : Int) : Option (Bool) :=
  (vni_By.f k a0 a1).bind fun (r1, r2) =>
  bif r2 then
    (slices_Contains_uint32_uint32.f k r1.Peers a2).bind fun r7 =>
    vni_Peer.k1 r7
  else
    vni_Peer.k1 false

set_option maxRecDepth 100000 in
theorem vni_Peer_calls (k : Nat) (A00 : SkL (SkL Unit)) (a0 : (List api_Seg)) (a1 : Int) (a2 : Int) (r : Bool) (h : vni_Peer.f k a0 a1 a2 = some r) : Pure Tryz.prog ([Row 3 api_Seg.encS api_Seg.inK A00 a0] ++ Glob) 49 #[slcV A00 a0.length, .int .i64 a1, .int .u32 a2] (.bool r) := by
  intro w Z hS
  refine calls_of (args := [slcV A00 a0.length, .int .i64 a1, .int .u32 a2]) (L := [(0, slcV A00 a0.length), (1, .int .i64 a1), (2, .int .u32 a2)]) (N := 22) (S := Sat w Z [] [] ([Row 3 api_Seg.encS api_Seg.inK A00 a0] ++ Glob)) Tryz.func49 rfl rfl (Nat.le_of_ble_eq_true rfl) rfl hS ?_
  have hM := h
  clear h hS
  unfold vni_Peer.f at hM
  refine WP.seq ?_
  refine WP.run [] [0, 1, 2, 6] (fun _ => [(0, slcV A00 a0.length), (1, .int .i64 a1), (2, .int .u32 a2), (6, .bool false)]) (fun _ => []) (fun _ => []) (fun _ => by kernel_rfl) (fun _ => ?_)
  refine WP.seq ?_
  refine WP.region ?_
  refine WL.run 2 [] [2, 6, 10, 11] (fun _ => [(2, .int .u32 a2), (6, .bool false), (10, slcV A00 a0.length), (11, .int .i64 a1)]) (fun _ => []) (fun _ => []) (fun _ => by kernel_rfl) (fun _ => ?_)
  obtain ⟨⟨r1, r2⟩, h3, hM⟩ := bind_some hM
  dsimp only at hM
  refine WL.callX (F0 := [Row 3 api_Seg.encS api_Seg.inK A00 a0]) [] [] [] (fun _ => _) [0] (by kernel_rfl) (vni_By_calls k A00 a0 a1 _ h3) rfl rfl (by kernel_rfl) (by kernel_rfl) (fun _ => rfl) (fun A4 => ?_)
  refine WL.run 6 [0, 0, 0] [2, 6, 7, 8] (fun b5 => [(2, .int .u32 a2), (6, .bool false), (7, .pointer (some ⟨b5, 0, none⟩)), (8, .bool r2)]) (fun b5 => [(b5, .cells #[.int .i64 r1.Vid, .int .i64 r1.Vni, slcV A4 r1.Peers.length] 35 (0, 0))]) (fun b5 => [b5, b5, b5]) (fun b5 => by kernel_rfl) (fun b5 => ?_)
  refine WP.done ?_
  refine WP.seq ?_
  refine WP.region ?_
  refine WL.run 2 [] [2, 6, 7, 16] (fun _ => [(2, .int .u32 a2), (6, .bool false), (7, .pointer (some ⟨b5, 0, none⟩)), (16, .bool r2)]) (fun _ => [(b5, .cells #[.int .i64 r1.Vid, .int .i64 r1.Vni, slcV A4 r1.Peers.length] 35 (0, 0))]) (fun _ => []) (fun _ => by kernel_rfl) (fun _ => ?_)
  refine WL.sub [2, 6, 7, 16] (L' := [(2, .int .u32 a2), (6, .bool false), (7, .pointer (some ⟨b5, 0, none⟩)), (16, .bool r2)]) (by kernel_rfl) ?_
  refine WL.join (σ := Bool) 5 (fun st => vni_Peer.k1 st = some r) (fun st => [(6, .bool false), (21, .bool st)]) (fun st => Sat w Z [] [] ([Row 1 (pl (encI .u32)) noK A4 r1.Peers, Row 3 api_Seg.encS api_Seg.inK A00 a0] ++ Glob)) (fun st hM => ?_) (fun K1 => ?_)
  ·
    obtain ⟨x9, rfl⟩ : ∃ y, y = st := ⟨st, rfl⟩
    replace hM : vni_Peer.k1 x9 = some r := hM
    unfold vni_Peer.k1 at hM
    show WL _ _ _ _ _ [(6, .bool false), (21, .bool x9)] (Sat w Z [] [] ([Row 1 (pl (encI .u32)) noK A4 r1.Peers, Row 3 api_Seg.encS api_Seg.inK A00 a0] ++ Glob))
    refine WL.run 1 [] [6] (fun _ => [(6, .bool x9)]) (fun _ => []) (fun _ => []) (fun _ => by kernel_rfl) (fun _ => ?_)
    refine WP.done ?_
    obtain rfl := Option.some.inj hM
    exact WP.ret [] [] (.bool x9) (by kernel_rfl) (fun w' hw => ⟨rfl, (hw.pick [] rfl).lessF [1] (by kernel_rfl)⟩)
  ·
    refine WL.split (fun b' => [(2, .int .u32 a2), (6, .bool false), (7, .pointer (some ⟨b5, 0, none⟩)), (16, .bool b')]) r2 (fun c6 => ?_) (fun c6 => ?_)
    · replace hM := cond_t hM c6
      refine WL.run 3 [0] [6, 16, 18, 19] (fun _ => [(6, .bool false), (16, .bool true), (18, slcV A4 r1.Peers.length), (19, .int .u32 a2)]) (fun _ => [(b5, .cells #[.int .i64 r1.Vid, .int .i64 r1.Vni, slcV A4 r1.Peers.length] 35 (0, 0))]) (fun _ => [b5]) (fun _ => by kernel_rfl) (fun _ => ?_)
      obtain ⟨r7, h8, hM⟩ := bind_some hM
      refine WL.callP [] [] (slices_Contains_uint32_uint32_calls k A4 r1.Peers a2 _ h8) (sub_pick [0] (by kernel_rfl)) (by kernel_rfl) (by kernel_rfl) rfl ?_
      refine WL.run 1 [] [6, 21] (fun _ => [(6, .bool false), (21, .bool r7)]) (fun _ => [(b5, .cells #[.int .i64 r1.Vid, .int .i64 r1.Vni, slcV A4 r1.Peers.length] 35 (0, 0))]) (fun _ => []) (fun _ => by kernel_rfl) (fun _ => ?_)
      exact WL.sub [6, 21] (by kernel_rfl) (WL.pick [] (by kernel_rfl) (by kernel_rfl) (WL.lessF [0, 1] (by kernel_rfl) (K1 r7 hM)))
    · replace hM := cond_f hM c6
      refine WL.run 5 [] [6, 21] (fun _ => [(6, .bool false), (21, .bool false)]) (fun _ => [(b5, .cells #[.int .i64 r1.Vid, .int .i64 r1.Vni, slcV A4 r1.Peers.length] 35 (0, 0))]) (fun _ => []) (fun _ => by kernel_rfl) (fun _ => ?_)
      exact WL.sub [6, 21] (by kernel_rfl) (WL.pick [] (by kernel_rfl) (by kernel_rfl) (WL.lessF [0, 1] (by kernel_rfl) (K1 false hM)))

end Go.Proofs.YtbodofjnfmjbpaaGreatDoor

namespace Go.Proofs.YtbodofjnfmjbpaaGreatDoor
open Go Eng
set_option linter.unusedVariables false
set_option linter.unusedSimpArgs false

/-! ### (*gangway/tunnel.opener).step: function 26 -/
def tunnel_opener_step.f (k : Nat) (a0 : (List api_Seg)) (a0_1 : Int) (a0_2 : Int) (a0_3 : ByteArray) (a0_4 : Int) (a0_5 : Int) (a0_6 : (List Int)) (a0_7 : Int) (a0_8 : Int) (a0_9 : Bool) (a0_10 : Int) (a0_11 : Bool) (a0_12 : Int) (a0_13 : Int) (a0_14 : ByteArray) (a1 : Int) : Option (Bool × Int × ByteArray × Int × Int × (List Int) × Int × Int × Bool × Int × Bool × Int × Int × ByteArray) :=
  bif (a1 == 0) then
    (vxlan_Parse.f k a0_3).bind fun (r2, r3, r4) =>
    some ((r4 == 0), r2, r3, a0_4, a0_5, a0_6, a0_7, a0_8, a0_9, a0_10, a0_11, a0_12, a0_13, a0_14)
  else
    bif (a1 == 1) then
      (vni_By.f k a0 a0_2).bind fun (r8, r9) =>
      some (r9, a0_2, a0_3, r8.Vid, r8.Vni, r8.Peers, a0_7, a0_8, a0_9, a0_10, a0_11, a0_12, a0_13, a0_14)
    else
      bif (a1 == 2) then
        (vni_Peer.f k a0 a0_2 a0_1).bind fun r14 =>
        some (r14, a0_2, a0_3, a0_4, a0_5, a0_6, a0_7, a0_8, a0_9, a0_10, a0_11, a0_12, a0_13, a0_14)
      else
        (ether_Parse.f k a0_3).bind fun (r16, r17) =>
        some (((r17 == 0) && (!r16.Tag.Has)), a0_2, a0_3, a0_4, a0_5, a0_6, r16.Dst, r16.Src, r16.Tag.Has, r16.Tag.Pri, r16.Tag.Dei, r16.Tag.Vid, r16.Type_, r16.Body)

set_option maxRecDepth 100000 in
theorem tunnel_opener_step_calls (k : Nat) (b_0 : Nat) (A00 : SkL (SkL Unit)) (A01 : SkL Unit) (a0 : (List api_Seg)) (a0_1 : Int) (a0_2 : Int) (a0_3 : ByteArray) (a0_4 : Int) (a0_5 : Int) (a0_6 : (List Int)) (a0_7 : Int) (a0_8 : Int) (a0_9 : Bool) (a0_10 : Int) (a0_11 : Bool) (a0_12 : Int) (a0_13 : Int) (a0_14 : ByteArray) (a1 : Int) (r : Bool × Int × ByteArray × Int × Int × (List Int) × Int × Int × Bool × Int × Bool × Int × Int × ByteArray) (h : tunnel_opener_step.f k a0 a0_1 a0_2 a0_3 a0_4 a0_5 a0_6 a0_7 a0_8 a0_9 a0_10 a0_11 a0_12 a0_13 a0_14 a1 = some r) : Does Tryz.prog 26 #[.pointer (some ⟨b_0, 0, none⟩), .int .i64 a1] [(b_0, .cells #[slcV A00 a0.length, .int .u32 a0_1, .int .i64 a0_2, .string a0_3, .int .i64 a0_4, .int .i64 a0_5, slcV A01 a0_6.length, .int .u64 a0_7, .int .u64 a0_8, .bool a0_9, .int .i64 a0_10, .bool a0_11, .int .i64 a0_12, .int .i64 a0_13, .string a0_14] 62 (0, 0))] ([Row 3 api_Seg.encS api_Seg.inK A00 a0, Row 1 (pl (encI .u32)) noK A01 a0_6] ++ Glob) (fun x : (SkL Unit) => .bool r.1) (fun x => [(b_0, .cells #[slcV A00 a0.length, .int .u32 a0_1, .int .i64 r.2.1, .string r.2.2.1, .int .i64 r.2.2.2.1, .int .i64 r.2.2.2.2.1, slcV x r.2.2.2.2.2.1.length, .int .u64 r.2.2.2.2.2.2.1, .int .u64 r.2.2.2.2.2.2.2.1, .bool r.2.2.2.2.2.2.2.2.1, .int .i64 r.2.2.2.2.2.2.2.2.2.1, .bool r.2.2.2.2.2.2.2.2.2.2.1, .int .i64 r.2.2.2.2.2.2.2.2.2.2.2.1, .int .i64 r.2.2.2.2.2.2.2.2.2.2.2.2.1, .string r.2.2.2.2.2.2.2.2.2.2.2.2.2] 62 (0, 0))]) (fun _ => []) (fun x => [Row 1 (pl (encI .u32)) noK x r.2.2.2.2.2.1] ++ ([Row 3 api_Seg.encS api_Seg.inK A00 a0, Row 1 (pl (encI .u32)) noK A01 a0_6] ++ Glob)) := by
  intro w Z hS
  refine calls_of (args := [.pointer (some ⟨b_0, 0, none⟩), .int .i64 a1]) (L := [(0, .pointer (some ⟨b_0, 0, none⟩)), (1, .int .i64 a1)]) (N := 88) (S := Sat w Z [(b_0, .cells #[slcV A00 a0.length, .int .u32 a0_1, .int .i64 a0_2, .string a0_3, .int .i64 a0_4, .int .i64 a0_5, slcV A01 a0_6.length, .int .u64 a0_7, .int .u64 a0_8, .bool a0_9, .int .i64 a0_10, .bool a0_11, .int .i64 a0_12, .int .i64 a0_13, .string a0_14] 62 (0, 0))] [] ([Row 3 api_Seg.encS api_Seg.inK A00 a0, Row 1 (pl (encI .u32)) noK A01 a0_6] ++ Glob)) Tryz.func26 rfl rfl (Nat.le_of_ble_eq_true rfl) rfl hS ?_
  have hM := h
  clear h hS
  unfold tunnel_opener_step.f at hM
  refine WP.seq ?_
  refine WP.run [] [0, 1, 4] (fun _ => [(0, .pointer (some ⟨b_0, 0, none⟩)), (1, .int .i64 a1), (4, .bool false)]) (fun _ => [(b_0, .cells #[slcV A00 a0.length, .int .u32 a0_1, .int .i64 a0_2, .string a0_3, .int .i64 a0_4, .int .i64 a0_5, slcV A01 a0_6.length, .int .u64 a0_7, .int .u64 a0_8, .bool a0_9, .int .i64 a0_10, .bool a0_11, .int .i64 a0_12, .int .i64 a0_13, .string a0_14] 62 (0, 0))]) (fun _ => []) (fun _ => by kernel_rfl) (fun _ => ?_)
  refine WP.seq ?_
  refine WP.seq ?_
  refine WP.run [] [0, 4, 12] (fun _ => [(0, .pointer (some ⟨b_0, 0, none⟩)), (4, .bool false), (12, .int .i64 a1)]) (fun _ => [(b_0, .cells #[slcV A00 a0.length, .int .u32 a0_1, .int .i64 a0_2, .string a0_3, .int .i64 a0_4, .int .i64 a0_5, slcV A01 a0_6.length, .int .u64 a0_7, .int .u64 a0_8, .bool a0_9, .int .i64 a0_10, .bool a0_11, .int .i64 a0_12, .int .i64 a0_13, .string a0_14] 62 (0, 0))]) (fun _ => []) (fun _ => by kernel_rfl) (fun _ => ?_)
  refine WP.block ?_
  refine WP.seq ?_
  refine WP.run [] [0, 4, 12, 13] (fun _ => [(0, .pointer (some ⟨b_0, 0, none⟩)), (4, .bool false), (12, .int .i64 a1), (13, .bool (a1 == 0))]) (fun _ => [(b_0, .cells #[slcV A00 a0.length, .int .u32 a0_1, .int .i64 a0_2, .string a0_3, .int .i64 a0_4, .int .i64 a0_5, slcV A01 a0_6.length, .int .u64 a0_7, .int .u64 a0_8, .bool a0_9, .int .i64 a0_10, .bool a0_11, .int .i64 a0_12, .int .i64 a0_13, .string a0_14] 62 (0, 0))]) (fun _ => []) (fun _ => by kernel_rfl) (fun _ => ?_)
  refine WP.cond (a1 == 0) rfl rfl (fun c1 => ?_) (fun c1 => ?_)
  · replace hM := cond_t hM c1
    refine WP.seq ?_
    refine WP.region ?_
    refine WL.run 4 [0] [0, 4, 19] (fun _ => [(0, .pointer (some ⟨b_0, 0, none⟩)), (4, .bool false), (19, .string a0_3)]) (fun _ => [(b_0, .cells #[slcV A00 a0.length, .int .u32 a0_1, .int .i64 a0_2, .string a0_3, .int .i64 a0_4, .int .i64 a0_5, slcV A01 a0_6.length, .int .u64 a0_7, .int .u64 a0_8, .bool a0_9, .int .i64 a0_10, .bool a0_11, .int .i64 a0_12, .int .i64 a0_13, .string a0_14] 62 (0, 0))]) (fun _ => [b_0]) (fun _ => by kernel_rfl) (fun _ => ?_)
    obtain ⟨⟨r2, r3, r4⟩, h5, hM⟩ := bind_some hM
    dsimp only at hM
    refine WL.callP [] [] (vxlan_Parse_calls k a0_3 _ h5) (fun _ h => List.mem_append_right _ h) (by kernel_rfl) (by kernel_rfl) rfl ?_
    refine WL.run 7 [] [0, 4, 5, 6, 7] (fun _ => [(0, .pointer (some ⟨b_0, 0, none⟩)), (4, .bool false), (5, .int .i64 r2), (6, .string r3), (7, .int .i64 r4)]) (fun _ => [(b_0, .cells #[slcV A00 a0.length, .int .u32 a0_1, .int .i64 a0_2, .string a0_3, .int .i64 a0_4, .int .i64 a0_5, slcV A01 a0_6.length, .int .u64 a0_7, .int .u64 a0_8, .bool a0_9, .int .i64 a0_10, .bool a0_11, .int .i64 a0_12, .int .i64 a0_13, .string a0_14] 62 (0, 0))]) (fun _ => []) (fun _ => by kernel_rfl) (fun _ => ?_)
    refine WP.done ?_
    refine WP.seq ?_
    refine WP.run [0, 0] [0, 4, 7] (fun _ => [(0, .pointer (some ⟨b_0, 0, none⟩)), (4, .bool false), (7, .int .i64 r4)]) (fun _ => [(b_0, .cells #[slcV A00 a0.length, .int .u32 a0_1, .int .i64 r2, .string r3, .int .i64 a0_4, .int .i64 a0_5, slcV A01 a0_6.length, .int .u64 a0_7, .int .u64 a0_8, .bool a0_9, .int .i64 a0_10, .bool a0_11, .int .i64 a0_12, .int .i64 a0_13, .string a0_14] 62 (0, 0))]) (fun _ => [b_0, b_0]) (fun _ => by kernel_rfl) (fun _ => ?_)
    refine WP.seq ?_
    refine WP.run [] [0, 4] (fun _ => [(0, .pointer (some ⟨b_0, 0, none⟩)), (4, .bool (r4 == 0))]) (fun _ => [(b_0, .cells #[slcV A00 a0.length, .int .u32 a0_1, .int .i64 r2, .string r3, .int .i64 a0_4, .int .i64 a0_5, slcV A01 a0_6.length, .int .u64 a0_7, .int .u64 a0_8, .bool a0_9, .int .i64 a0_10, .bool a0_11, .int .i64 a0_12, .int .i64 a0_13, .string a0_14] 62 (0, 0))]) (fun _ => []) (fun _ => by kernel_rfl) (fun _ => ?_)
    obtain rfl := Option.some.inj hM
    exact WP.ret [] [] (.bool (r4 == 0)) (by kernel_rfl) (fun w' hw => ⟨A01, rfl, (hw.pick [0] (by kernel_rfl)).less (sub_ret [1] [0, 1] (by kernel_rfl) (by kernel_rfl))⟩)
  · replace hM := cond_f hM c1
    refine WP.seq ?_
    refine WP.run [] [0, 4, 12, 34] (fun _ => [(0, .pointer (some ⟨b_0, 0, none⟩)), (4, .bool false), (12, .int .i64 a1), (34, .bool (a1 == 1))]) (fun _ => [(b_0, .cells #[slcV A00 a0.length, .int .u32 a0_1, .int .i64 a0_2, .string a0_3, .int .i64 a0_4, .int .i64 a0_5, slcV A01 a0_6.length, .int .u64 a0_7, .int .u64 a0_8, .bool a0_9, .int .i64 a0_10, .bool a0_11, .int .i64 a0_12, .int .i64 a0_13, .string a0_14] 62 (0, 0))]) (fun _ => []) (fun _ => by kernel_rfl) (fun _ => ?_)
    refine WP.cond (a1 == 1) rfl rfl (fun c6 => ?_) (fun c6 => ?_)
    · replace hM := cond_t hM c6
      refine WP.seq ?_
      obtain ⟨⟨r8, r9⟩, h10, hM⟩ := bind_some hM
      dsimp only at hM
      refine WP.sub [0, 4] (L' := [(0, .pointer (some ⟨b_0, 0, none⟩)), (4, .bool false)]) (by kernel_rfl) ?_
      refine WP.mixed (X := (SkL Unit)) 14 [.val (.pointer (some ⟨b_0, 0, none⟩)), .val (.pointer (some ⟨b_0, 0, none⟩)), .val (.pointer (some ⟨b_0, 0, none⟩)), .val (slcV A00 a0.length), .val (.pointer (some ⟨b_0, 0, none⟩)), .val (.pointer (some ⟨b_0, 0, none⟩)), .val (.pointer (some ⟨b_0, 2, none⟩)), .val (.int .i64 a0_2), .ex [] (fun tt => .tuple #[.agg #[.int .i64 r8.Vid, .int .i64 r8.Vni, slcV (tt 8) r8.Peers.length], .bool r9]) (fun tt => [Row 1 (pl (encI .u32)) noK (tt 8) r8.Peers]), .valX [8] (fun tt => .tuple #[.agg #[.int .i64 r8.Vid, .int .i64 r8.Vni, slcV (tt 8) r8.Peers.length], .bool r9]), .valX [8] (fun tt => .agg #[.int .i64 r8.Vid, .int .i64 r8.Vni, slcV (tt 8) r8.Peers.length]), .val (.bool r9), .alloc (.cells #[.int .i64 0, .int .i64 0, .slice none 0 0] 35 (0, 0)) (fun b => .pointer (some ⟨b, 0, none⟩)), .fill 12 [8] (fun tt => .cells #[.int .i64 r8.Vid, .int .i64 r8.Vni, slcV (tt 8) r8.Peers.length] 35 (0, 0))] [(b_0, .cells #[slcV A00 a0.length, .int .u32 a0_1, .int .i64 a0_2, .string a0_3, .int .i64 a0_4, .int .i64 a0_5, slcV A01 a0_6.length, .int .u64 a0_7, .int .u64 a0_8, .bool a0_9, .int .i64 a0_10, .bool a0_11, .int .i64 a0_12, .int .i64 a0_13, .string a0_14] 62 (0, 0))] [] (by kernel_rfl) (by kernel_rfl) (by kernel_rfl) (by kernel_rfl) (Heads.val (fun tt Ψ => OpV.run [] [] (by kernel_rfl) (fun _ => by kernel_rfl)) (Heads.val (fun tt Ψ => OpV.run [] [] (by kernel_rfl) (fun _ => by kernel_rfl)) (Heads.val (fun tt Ψ => OpV.run [] [] (by kernel_rfl) (fun _ => by kernel_rfl)) (Heads.val (fun tt Ψ => OpV.run [0] [b_0] (by kernel_rfl) (fun _ => by kernel_rfl)) (Heads.val (fun tt Ψ => OpV.run [] [] (by kernel_rfl) (fun _ => by kernel_rfl)) (Heads.val (fun tt Ψ => OpV.run [] [] (by kernel_rfl) (fun _ => by kernel_rfl)) (Heads.val (fun tt Ψ => OpV.run [] [] (by kernel_rfl) (fun _ => by kernel_rfl)) (Heads.val (fun tt Ψ => OpV.run [0] [b_0] (by kernel_rfl) (fun _ => by kernel_rfl)) (Heads.ex (fun x x' h => ⟨(by first | rfl | simp only [h 8 (List.mem_cons_self ..)]), (by first | rfl | simp only [h 8 (List.mem_cons_self ..)])⟩) (fun tt Ψ hΨ => OpX.callX (F0 := [Row 3 api_Seg.encS api_Seg.inK A00 a0]) (fun u => u) [] [] (app2 (mem2 (List.mem_append_right _ (fact_at 0 rfl)) no_facts) (fun _ h => (List.mem_append_right _ (List.mem_append_right _ h)))) (fun _ h => h) (vni_By_calls k A00 a0 a0_2 _ h10) (fun x => ⟨x, rfl⟩) (fun _ => by kernel_rfl) (fun _ => by kernel_rfl) (fun _ => by kernel_rfl)) (Heads.valX (fun x x' h => (by first | rfl | simp only [h 8 (List.mem_of_getElem? (i := 0) rfl)])) (fun tt Ψ hΨ => OpV.run [] [] (by kernel_rfl) (fun _ => by kernel_rfl)) (Heads.valX (fun x x' h => (by first | rfl | simp only [h 8 (List.mem_of_getElem? (i := 0) rfl)])) (fun tt Ψ hΨ => OpV.run [] [] (by kernel_rfl) (fun _ => by kernel_rfl)) (Heads.val (fun tt Ψ => OpV.run [] [] (by kernel_rfl) (fun _ => by kernel_rfl)) (Heads.alloc (fun _ => by kernel_rfl) (fun _ _ => by kernel_rfl) (Heads.fill (fun x x' h => (by first | rfl | simp only [h 8 (List.mem_of_getElem? (i := 0) rfl)])) 8 (fun b => .pointer (some ⟨b, 0, none⟩)) (.cells #[.int .i64 0, .int .i64 0, .slice none 0 0] 35 (0, 0)) rfl rfl (fun tt Ψ => OpF.run [1, 1, 1] (fun b => [b, b, b]) (fun _ => by kernel_rfl) (fun _ _ _ => by kernel_rfl) (fun _ _ _ => by kernel_rfl)) Heads.nil)))))))))))))) (fun s7 tt => [(37, .pointer (some ⟨b_0, 0, none⟩)), (38, .pointer (some ⟨b_0, 0, none⟩)), (39, .pointer (some ⟨b_0, 0, none⟩)), (40, slcV A00 a0.length), (41, .pointer (some ⟨b_0, 0, none⟩)), (42, .pointer (some ⟨b_0, 0, none⟩)), (43, .pointer (some ⟨b_0, 2, none⟩)), (44, .int .i64 a0_2), (45, .tuple #[.agg #[.int .i64 r8.Vid, .int .i64 r8.Vni, slcV (tt 8) r8.Peers.length], .bool r9]), (36, .tuple #[.agg #[.int .i64 r8.Vid, .int .i64 r8.Vni, slcV (tt 8) r8.Peers.length], .bool r9]), (46, .agg #[.int .i64 r8.Vid, .int .i64 r8.Vni, slcV (tt 8) r8.Peers.length]), (47, .bool r9), (8, .pointer (some ⟨(s7 12), 0, none⟩)), (0, .pointer (some ⟨b_0, 0, none⟩)), (4, .bool false)]) (fun s7 tt => [(b_0, .cells #[slcV A00 a0.length, .int .u32 a0_1, .int .i64 a0_2, .string a0_3, .int .i64 a0_4, .int .i64 a0_5, slcV A01 a0_6.length, .int .u64 a0_7, .int .u64 a0_8, .bool a0_9, .int .i64 a0_10, .bool a0_11, .int .i64 a0_12, .int .i64 a0_13, .string a0_14] 62 (0, 0)), ((s7 12), .cells #[.int .i64 r8.Vid, .int .i64 r8.Vni, slcV (tt 8) r8.Peers.length] 35 (0, 0))]) (fun tt => ([Row 1 (pl (encI .u32)) noK (tt 8) r8.Peers] ++ [Row 3 api_Seg.encS api_Seg.inK A00 a0, Row 1 (pl (encI .u32)) noK A01 a0_6]) ++ Glob) (fun _ _ => by kernel_rfl) (fun _ _ => by kernel_rfl) (fun _ => by kernel_rfl) (fun s7 tt => ?_)
      generalize s7 12 = b12
      generalize (tt 8) = A11
      refine WL.run 1 [] [0, 4, 8, 9] (fun _ => [(0, .pointer (some ⟨b_0, 0, none⟩)), (4, .bool false), (8, .pointer (some ⟨b12, 0, none⟩)), (9, .bool r9)]) (fun _ => [(b_0, .cells #[slcV A00 a0.length, .int .u32 a0_1, .int .i64 a0_2, .string a0_3, .int .i64 a0_4, .int .i64 a0_5, slcV A01 a0_6.length, .int .u64 a0_7, .int .u64 a0_8, .bool a0_9, .int .i64 a0_10, .bool a0_11, .int .i64 a0_12, .int .i64 a0_13, .string a0_14] 62 (0, 0)), (b12, .cells #[.int .i64 r8.Vid, .int .i64 r8.Vni, slcV A11 r8.Peers.length] 35 (0, 0))]) (fun _ => []) (fun _ => by kernel_rfl) (fun _ => ?_)
      refine WP.done ?_
      refine WP.seq ?_
      refine WP.run [1, 1, 1, 0, 0, 0] [0, 4, 9] (fun _ => [(0, .pointer (some ⟨b_0, 0, none⟩)), (4, .bool false), (9, .bool r9)]) (fun _ => [(b_0, .cells #[slcV A00 a0.length, .int .u32 a0_1, .int .i64 a0_2, .string a0_3, .int .i64 r8.Vid, .int .i64 r8.Vni, slcV A11 r8.Peers.length, .int .u64 a0_7, .int .u64 a0_8, .bool a0_9, .int .i64 a0_10, .bool a0_11, .int .i64 a0_12, .int .i64 a0_13, .string a0_14] 62 (0, 0)), (b12, .cells #[.int .i64 r8.Vid, .int .i64 r8.Vni, slcV A11 r8.Peers.length] 35 (0, 0))]) (fun _ => [b_0, b_0, b_0, b12, b12, b12]) (fun _ => by kernel_rfl) (fun _ => ?_)
      refine WP.keep [true, false] (by kernel_rfl : _ = [(b_0, .cells #[slcV A00 a0.length, .int .u32 a0_1, .int .i64 a0_2, .string a0_3, .int .i64 r8.Vid, .int .i64 r8.Vni, slcV A11 r8.Peers.length, .int .u64 a0_7, .int .u64 a0_8, .bool a0_9, .int .i64 a0_10, .bool a0_11, .int .i64 a0_12, .int .i64 a0_13, .string a0_14] 62 (0, 0))]) ?_
      refine WP.seq ?_
      refine WP.run [] [0, 4] (fun _ => [(0, .pointer (some ⟨b_0, 0, none⟩)), (4, .bool r9)]) (fun _ => [(b_0, .cells #[slcV A00 a0.length, .int .u32 a0_1, .int .i64 a0_2, .string a0_3, .int .i64 r8.Vid, .int .i64 r8.Vni, slcV A11 r8.Peers.length, .int .u64 a0_7, .int .u64 a0_8, .bool a0_9, .int .i64 a0_10, .bool a0_11, .int .i64 a0_12, .int .i64 a0_13, .string a0_14] 62 (0, 0))]) (fun _ => []) (fun _ => by kernel_rfl) (fun _ => ?_)
      obtain rfl := Option.some.inj hM
      exact WP.ret [] [] (.bool r9) (by kernel_rfl) (fun w' hw => ⟨A11, rfl, (hw.pick [0] (by kernel_rfl)).less (sub_ret [0] [1, 2] (by kernel_rfl) (by kernel_rfl))⟩)
    · replace hM := cond_f hM c6
      refine WP.seq ?_
      refine WP.run [] [0, 4, 53] (fun _ => [(0, .pointer (some ⟨b_0, 0, none⟩)), (4, .bool false), (53, .bool (a1 == 2))]) (fun _ => [(b_0, .cells #[slcV A00 a0.length, .int .u32 a0_1, .int .i64 a0_2, .string a0_3, .int .i64 a0_4, .int .i64 a0_5, slcV A01 a0_6.length, .int .u64 a0_7, .int .u64 a0_8, .bool a0_9, .int .i64 a0_10, .bool a0_11, .int .i64 a0_12, .int .i64 a0_13, .string a0_14] 62 (0, 0))]) (fun _ => []) (fun _ => by kernel_rfl) (fun _ => ?_)
      refine WP.cond (a1 == 2) rfl rfl (fun c13 => ?_) (fun c13 => ?_)
      · replace hM := cond_t hM c13
        refine WP.seq ?_
        refine WP.quiet (by kernel_rfl) (by kernel_rfl) ?_
        refine QL.run 12 [0, 0, 0] [0, 4, 58, 62, 66] [b_0, b_0, b_0] [(0, .pointer (some ⟨b_0, 0, none⟩)), (4, .bool false), (58, slcV A00 a0.length), (62, .int .i64 a0_2), (66, .int .u32 a0_1)] (by kernel_rfl) ?_
        obtain ⟨r14, h15, hM⟩ := bind_some hM
        refine QL.callP [] [] (vni_Peer_calls k A00 a0 a0_2 a0_1 _ h15) (sub_pick [0] (by kernel_rfl)) (by kernel_rfl) (by kernel_rfl) rfl ?_
        refine QL.run 1 [] [0, 4] [] [(0, .pointer (some ⟨b_0, 0, none⟩)), (4, .bool r14)] (by kernel_rfl) ?_
        refine QL.done ?_
        obtain rfl := Option.some.inj hM
        exact WP.ret [] [] (.bool r14) (by kernel_rfl) (fun w' hw => ⟨A01, rfl, (hw.pick [0] (by kernel_rfl)).less (sub_ret [1] [0, 1] (by kernel_rfl) (by kernel_rfl))⟩)
      · replace hM := cond_f hM c13
        refine WP.skip ?_
        refine WP.leave ?_
        refine WP.seq ?_
        refine WP.region ?_
        refine WL.run 4 [0] [0, 4, 72] (fun _ => [(0, .pointer (some ⟨b_0, 0, none⟩)), (4, .bool false), (72, .string a0_3)]) (fun _ => [(b_0, .cells #[slcV A00 a0.length, .int .u32 a0_1, .int .i64 a0_2, .string a0_3, .int .i64 a0_4, .int .i64 a0_5, slcV A01 a0_6.length, .int .u64 a0_7, .int .u64 a0_8, .bool a0_9, .int .i64 a0_10, .bool a0_11, .int .i64 a0_12, .int .i64 a0_13, .string a0_14] 62 (0, 0))]) (fun _ => [b_0]) (fun _ => by kernel_rfl) (fun _ => ?_)
        obtain ⟨⟨r16, r17⟩, h18, hM⟩ := bind_some hM
        dsimp only at hM
        refine WL.callP [] [] (ether_Parse_calls k a0_3 _ h18) (fun _ h => List.mem_append_right _ h) (by kernel_rfl) (by kernel_rfl) rfl ?_
        refine WL.run 6 [1, 1, 1, 1, 1, 1, 1, 1] [0, 4, 10, 11] (fun b19 => [(0, .pointer (some ⟨b_0, 0, none⟩)), (4, .bool false), (10, .pointer (some ⟨b19, 0, none⟩)), (11, .int .i64 r17)]) (fun b19 => [(b_0, .cells #[slcV A00 a0.length, .int .u32 a0_1, .int .i64 a0_2, .string a0_3, .int .i64 a0_4, .int .i64 a0_5, slcV A01 a0_6.length, .int .u64 a0_7, .int .u64 a0_8, .bool a0_9, .int .i64 a0_10, .bool a0_11, .int .i64 a0_12, .int .i64 a0_13, .string a0_14] 62 (0, 0)), (b19, .cells #[.int .u64 r16.Dst, .int .u64 r16.Src, .bool r16.Tag.Has, .int .i64 r16.Tag.Pri, .bool r16.Tag.Dei, .int .i64 r16.Tag.Vid, .int .i64 r16.Type_, .string r16.Body] 29 (0, 0))]) (fun b19 => [b19, b19, b19, b19, b19, b19, b19, b19]) (fun b19 => by kernel_rfl) (fun b19 => ?_)
        refine WP.done ?_
        refine WP.seq ?_
        refine WP.run [1, 1, 1, 1, 1, 1, 1, 1, 0, 0, 0, 0, 0, 0, 0, 0] [4, 10, 11] (fun _ => [(4, .bool false), (10, .pointer (some ⟨b19, 0, none⟩)), (11, .int .i64 r17)]) (fun _ => [(b_0, .cells #[slcV A00 a0.length, .int .u32 a0_1, .int .i64 a0_2, .string a0_3, .int .i64 a0_4, .int .i64 a0_5, slcV A01 a0_6.length, .int .u64 r16.Dst, .int .u64 r16.Src, .bool r16.Tag.Has, .int .i64 r16.Tag.Pri, .bool r16.Tag.Dei, .int .i64 r16.Tag.Vid, .int .i64 r16.Type_, .string r16.Body] 62 (0, 0)), (b19, .cells #[.int .u64 r16.Dst, .int .u64 r16.Src, .bool r16.Tag.Has, .int .i64 r16.Tag.Pri, .bool r16.Tag.Dei, .int .i64 r16.Tag.Vid, .int .i64 r16.Type_, .string r16.Body] 29 (0, 0))]) (fun _ => [b_0, b_0, b_0, b_0, b_0, b_0, b_0, b_0, b19, b19, b19, b19, b19, b19, b19, b19]) (fun _ => by kernel_rfl) (fun _ => ?_)
        refine WP.seq ?_
        refine WP.region ?_
        refine WL.run 3 [] [4, 10, 82] (fun _ => [(4, .bool false), (10, .pointer (some ⟨b19, 0, none⟩)), (82, .bool (r17 == 0))]) (fun _ => [(b_0, .cells #[slcV A00 a0.length, .int .u32 a0_1, .int .i64 a0_2, .string a0_3, .int .i64 a0_4, .int .i64 a0_5, slcV A01 a0_6.length, .int .u64 r16.Dst, .int .u64 r16.Src, .bool r16.Tag.Has, .int .i64 r16.Tag.Pri, .bool r16.Tag.Dei, .int .i64 r16.Tag.Vid, .int .i64 r16.Type_, .string r16.Body] 62 (0, 0)), (b19, .cells #[.int .u64 r16.Dst, .int .u64 r16.Src, .bool r16.Tag.Has, .int .i64 r16.Tag.Pri, .bool r16.Tag.Dei, .int .i64 r16.Tag.Vid, .int .i64 r16.Type_, .string r16.Body] 29 (0, 0))]) (fun _ => []) (fun _ => by kernel_rfl) (fun _ => ?_)
        refine WL.sub [4, 10, 82] (L' := [(4, .bool false), (10, .pointer (some ⟨b19, 0, none⟩)), (82, .bool (r17 == 0))]) (by kernel_rfl) ?_
        refine WL.both (fun b' => [(4, .bool false), (10, .pointer (some ⟨b19, 0, none⟩)), (82, .bool b')]) (r17 == 0) 5 [1] [] [4, 87] (fun b' => [(4, .bool false), (87, .bool (b' && (!r16.Tag.Has)))]) [b19] [] (fun _ => by kernel_rfl) (fun _ => by kernel_rfl) ?_
        refine WL.run 1 [] [4] (fun _ => [(4, .bool ((r17 == 0) && (!r16.Tag.Has)))]) (fun _ => [(b_0, .cells #[slcV A00 a0.length, .int .u32 a0_1, .int .i64 a0_2, .string a0_3, .int .i64 a0_4, .int .i64 a0_5, slcV A01 a0_6.length, .int .u64 r16.Dst, .int .u64 r16.Src, .bool r16.Tag.Has, .int .i64 r16.Tag.Pri, .bool r16.Tag.Dei, .int .i64 r16.Tag.Vid, .int .i64 r16.Type_, .string r16.Body] 62 (0, 0)), (b19, .cells #[.int .u64 r16.Dst, .int .u64 r16.Src, .bool r16.Tag.Has, .int .i64 r16.Tag.Pri, .bool r16.Tag.Dei, .int .i64 r16.Tag.Vid, .int .i64 r16.Type_, .string r16.Body] 29 (0, 0))]) (fun _ => []) (fun _ => by kernel_rfl) (fun _ => ?_)
        refine WP.done ?_
        refine WP.keep [true, false] (by kernel_rfl : _ = [(b_0, .cells #[slcV A00 a0.length, .int .u32 a0_1, .int .i64 a0_2, .string a0_3, .int .i64 a0_4, .int .i64 a0_5, slcV A01 a0_6.length, .int .u64 r16.Dst, .int .u64 r16.Src, .bool r16.Tag.Has, .int .i64 r16.Tag.Pri, .bool r16.Tag.Dei, .int .i64 r16.Tag.Vid, .int .i64 r16.Type_, .string r16.Body] 62 (0, 0))]) ?_
        obtain rfl := Option.some.inj hM
        exact WP.ret [] [] (.bool ((r17 == 0) && (!r16.Tag.Has))) (by kernel_rfl) (fun w' hw => ⟨A01, rfl, (hw.pick [0] (by kernel_rfl)).less (sub_ret [1] [0, 1] (by kernel_rfl) (by kernel_rfl))⟩)

end Go.Proofs.YtbodofjnfmjbpaaGreatDoor

namespace Go.Proofs.YtbodofjnfmjbpaaGreatDoor
open Go Eng
set_option linter.unusedVariables false
set_option linter.unusedSimpArgs false

/-! ### gangway/tunnel.Unwrap: function 12 -/
def tunnel_Unwrap.k1 (x75 : Int) (x76 : Int) (x77 : ByteArray) (x78 : Int) (x79 : Int) (x80 : (List Int)) (x82 : Int) (x83 : Int) (x84 : Bool) (x85 : Int) (x86 : Bool) (x87 : Int) (x88 : Int) (x89 : ByteArray) : Option (api_Seg × api_Frame × Int) :=
  some ((api_Seg.mk x78 x79 x80), (api_Frame.mk x82 x83 (api_Tag.mk x84 x85 x86 x87) x88 x89), 0)

def tunnel_Unwrap.f (k : Nat) (a0 : (List api_Seg)) (a1 : Int) (a2 : api_Udp) : Option (api_Seg × api_Frame × Int) :=
  (tunnel_opener_step.f k a0 a1 0 a2.Body 0 0 ([] : List Int) 0 0 false 0 false 0 0 (⟨#[]⟩ : ByteArray) 0).bind fun (r7, r8, r9, r10, r11, r12, r13, r14, r15, r16, r17, r18, r19, r20) =>
  bif !r7 then
    some ((api_Seg.mk 0 0 ([] : List Int)), (api_Frame.mk 0 0 (api_Tag.mk false 0 false 0) 0 (⟨#[]⟩ : ByteArray)), 1)
  else
    (tunnel_opener_step.f k a0 a1 r8 r9 r10 r11 r12 r13 r14 r15 r16 r17 r18 r19 r20 1).bind fun (r24, r25, r26, r27, r28, r29, r30, r31, r32, r33, r34, r35, r36, r37) =>
    bif !r24 then
      some ((api_Seg.mk 0 0 ([] : List Int)), (api_Frame.mk 0 0 (api_Tag.mk false 0 false 0) 0 (⟨#[]⟩ : ByteArray)), 2)
    else
      (tunnel_opener_step.f k a0 a1 r25 r26 r27 r28 r29 r30 r31 r32 r33 r34 r35 r36 r37 2).bind fun (r41, r42, r43, r44, r45, r46, r47, r48, r49, r50, r51, r52, r53, r54) =>
      bif !r41 then
        some ((api_Seg.mk 0 0 ([] : List Int)), (api_Frame.mk 0 0 (api_Tag.mk false 0 false 0) 0 (⟨#[]⟩ : ByteArray)), 3)
      else
        (tunnel_opener_step.f k a0 a1 r42 r43 r44 r45 r46 r47 r48 r49 r50 r51 r52 r53 r54 3).bind fun (r58, r59, r60, r61, r62, r63, r64, r65, r66, r67, r68, r69, r70, r71) =>
        bif !r58 then
          some ((api_Seg.mk 0 0 ([] : List Int)), (api_Frame.mk 0 0 (api_Tag.mk false 0 false 0) 0 (⟨#[]⟩ : ByteArray)), 4)
        else
          tunnel_Unwrap.k1 0 r59 r60 r61 r62 r63 r64 r65 r66 r67 r68 r69 r70 r71

set_option maxRecDepth 100000 in
theorem tunnel_Unwrap_calls (k : Nat) (A00 : SkL (SkL Unit)) (a0 : (List api_Seg)) (a1 : Int) (a2 : api_Udp) (r : api_Seg × api_Frame × Int) (h : tunnel_Unwrap.f k a0 a1 a2 = some r) : Does Tryz.prog 12 #[slcV A00 a0.length, .int .u32 a1, .agg #[.int .i64 a2.Src, .int .i64 a2.Dst, .bool a2.NoSum, .string a2.Body]] [] ([Row 3 api_Seg.encS api_Seg.inK A00 a0] ++ Glob) (fun x : (SkL Unit) => .tuple #[.agg #[.int .i64 r.1.Vid, .int .i64 r.1.Vni, slcV x r.1.Peers.length], .agg #[.int .u64 r.2.1.Dst, .int .u64 r.2.1.Src, .bool r.2.1.Tag.Has, .int .i64 r.2.1.Tag.Pri, .bool r.2.1.Tag.Dei, .int .i64 r.2.1.Tag.Vid, .int .i64 r.2.1.Type_, .string r.2.1.Body], .int .i64 r.2.2]) (fun x => []) (fun _ => []) (fun x => [Row 1 (pl (encI .u32)) noK x r.1.Peers] ++ ([Row 3 api_Seg.encS api_Seg.inK A00 a0] ++ Glob)) := by
  intro w Z hS
  refine calls_of (args := [slcV A00 a0.length, .int .u32 a1, .agg #[.int .i64 a2.Src, .int .i64 a2.Dst, .bool a2.NoSum, .string a2.Body]]) (L := [(0, slcV A00 a0.length), (1, .int .u32 a1), (2, .agg #[.int .i64 a2.Src, .int .i64 a2.Dst, .bool a2.NoSum, .string a2.Body])]) (N := 41) (S := Sat w Z [] [] ([Row 3 api_Seg.encS api_Seg.inK A00 a0] ++ Glob)) Tryz.func12 rfl rfl (Nat.le_of_ble_eq_true rfl) rfl hS ?_
  have hM := h
  clear h hS
  unfold tunnel_Unwrap.f at hM
  refine WP.seq ?_
  refine WP.run [] [0, 1, 5, 6, 7, 8] (fun b1 => [(0, slcV A00 a0.length), (1, .int .u32 a1), (5, .pointer (some ⟨b1, 0, none⟩)), (6, .pointer (some ⟨(b1 + 1), 0, none⟩)), (7, .pointer (some ⟨(b1 + 2), 0, none⟩)), (8, .int .i64 0)]) (fun b1 => [(b1, .cells #[.int .i64 a2.Src, .int .i64 a2.Dst, .bool a2.NoSum, .string a2.Body] 40 (0, 0)), ((b1 + 1), .cells #[.int .i64 0, .int .i64 0, .slice none 0 0] 35 (0, 0)), ((b1 + 2), .cells #[.int .u64 0, .int .u64 0, .bool false, .int .i64 0, .bool false, .int .i64 0, .int .i64 0, .string (⟨#[]⟩ : ByteArray)] 29 (0, 0))]) (fun b1 => []) (fun b1 => by kernel_rfl) (fun b1 => ?_)
  refine WP.seq ?_
  refine WP.run [0] [6, 7, 8, 9] (fun b2 => [(6, .pointer (some ⟨(b1 + 1), 0, none⟩)), (7, .pointer (some ⟨(b1 + 2), 0, none⟩)), (8, .int .i64 0), (9, .pointer (some ⟨b2, 0, none⟩))]) (fun b2 => [(b1, .cells #[.int .i64 a2.Src, .int .i64 a2.Dst, .bool a2.NoSum, .string a2.Body] 40 (0, 0)), ((b1 + 1), .cells #[.int .i64 0, .int .i64 0, .slice none 0 0] 35 (0, 0)), ((b1 + 2), .cells #[.int .u64 0, .int .u64 0, .bool false, .int .i64 0, .bool false, .int .i64 0, .int .i64 0, .string (⟨#[]⟩ : ByteArray)] 29 (0, 0)), (b2, .cells #[slcV A00 a0.length, .int .u32 a1, .int .i64 0, .string a2.Body, .int .i64 0, .int .i64 0, .slice none 0 0, .int .u64 0, .int .u64 0, .bool false, .int .i64 0, .bool false, .int .i64 0, .int .i64 0, .string (⟨#[]⟩ : ByteArray)] 62 (0, 0))]) (fun b2 => [b1]) (fun b2 => by kernel_rfl) (fun b2 => ?_)
  refine WP.keep [false, true, true, true] (by kernel_rfl : _ = [((b1 + 1), .cells #[.int .i64 0, .int .i64 0, .slice none 0 0] 35 (0, 0)), ((b1 + 2), .cells #[.int .u64 0, .int .u64 0, .bool false, .int .i64 0, .bool false, .int .i64 0, .int .i64 0, .string (⟨#[]⟩ : ByteArray)] 29 (0, 0)), (b2, .cells #[slcV A00 a0.length, .int .u32 a1, .int .i64 0, .string a2.Body, .int .i64 0, .int .i64 0, .slice none 0 0, .int .u64 0, .int .u64 0, .bool false, .int .i64 0, .bool false, .int .i64 0, .int .i64 0, .string (⟨#[]⟩ : ByteArray)] 62 (0, 0))]) ?_
  refine WP.seq ?_
  refine WP.run [3, 3, 3, 3] [6, 7, 8, 9, 10] (fun b3 => [(6, .pointer (some ⟨(b1 + 1), 0, none⟩)), (7, .pointer (some ⟨(b1 + 2), 0, none⟩)), (8, .int .i64 0), (9, .pointer (some ⟨b2, 0, none⟩)), (10, .pointer (some ⟨b3, 0, none⟩))]) (fun b3 => [((b1 + 1), .cells #[.int .i64 0, .int .i64 0, .slice none 0 0] 35 (0, 0)), ((b1 + 2), .cells #[.int .u64 0, .int .u64 0, .bool false, .int .i64 0, .bool false, .int .i64 0, .int .i64 0, .string (⟨#[]⟩ : ByteArray)] 29 (0, 0)), (b2, .cells #[slcV A00 a0.length, .int .u32 a1, .int .i64 0, .string a2.Body, .int .i64 0, .int .i64 0, .slice none 0 0, .int .u64 0, .int .u64 0, .bool false, .int .i64 0, .bool false, .int .i64 0, .int .i64 0, .string (⟨#[]⟩ : ByteArray)] 62 (0, 0)), (b3, .cells #[.int .i64 1, .int .i64 2, .int .i64 3, .int .i64 4] 63 (0, 0))]) (fun b3 => [b3, b3, b3, b3]) (fun b3 => by kernel_rfl) (fun b3 => ?_)
  refine WP.seq ?_
  refine WP.seq ?_
  refine WP.run [3, 3, 3, 3] [6, 7, 8, 9, 20, 21] (fun _ => [(6, .pointer (some ⟨(b1 + 1), 0, none⟩)), (7, .pointer (some ⟨(b1 + 2), 0, none⟩)), (8, .int .i64 0), (9, .pointer (some ⟨b2, 0, none⟩)), (20, .agg #[.int .i64 1, .int .i64 2, .int .i64 3, .int .i64 4]), (21, .int .i64 0)]) (fun _ => [((b1 + 1), .cells #[.int .i64 0, .int .i64 0, .slice none 0 0] 35 (0, 0)), ((b1 + 2), .cells #[.int .u64 0, .int .u64 0, .bool false, .int .i64 0, .bool false, .int .i64 0, .int .i64 0, .string (⟨#[]⟩ : ByteArray)] 29 (0, 0)), (b2, .cells #[slcV A00 a0.length, .int .u32 a1, .int .i64 0, .string a2.Body, .int .i64 0, .int .i64 0, .slice none 0 0, .int .u64 0, .int .u64 0, .bool false, .int .i64 0, .bool false, .int .i64 0, .int .i64 0, .string (⟨#[]⟩ : ByteArray)] 62 (0, 0)), (b3, .cells #[.int .i64 1, .int .i64 2, .int .i64 3, .int .i64 4] 63 (0, 0))]) (fun _ => [b3, b3, b3, b3]) (fun _ => by kernel_rfl) (fun _ => ?_)
  refine WP.keep [true, true, true, false] (by kernel_rfl : _ = [((b1 + 1), .cells #[.int .i64 0, .int .i64 0, .slice none 0 0] 35 (0, 0)), ((b1 + 2), .cells #[.int .u64 0, .int .u64 0, .bool false, .int .i64 0, .bool false, .int .i64 0, .int .i64 0, .string (⟨#[]⟩ : ByteArray)] 29 (0, 0)), (b2, .cells #[slcV A00 a0.length, .int .u32 a1, .int .i64 0, .string a2.Body, .int .i64 0, .int .i64 0, .slice none 0 0, .int .u64 0, .int .u64 0, .bool false, .int .i64 0, .bool false, .int .i64 0, .int .i64 0, .string (⟨#[]⟩ : ByteArray)] 62 (0, 0))]) ?_
  refine WP.blockJoin (σ := Int × Int × ByteArray × Int × Int × (List Int) × SkL Unit × Int × Int × Bool × Int × Bool × Int × Int × ByteArray) (fun st => tunnel_Unwrap.k1 st.1 st.2.1 st.2.2.1 st.2.2.2.1 st.2.2.2.2.1 st.2.2.2.2.2.1 st.2.2.2.2.2.2.2.1 st.2.2.2.2.2.2.2.2.1 st.2.2.2.2.2.2.2.2.2.1 st.2.2.2.2.2.2.2.2.2.2.1 st.2.2.2.2.2.2.2.2.2.2.2.1 st.2.2.2.2.2.2.2.2.2.2.2.2.1 st.2.2.2.2.2.2.2.2.2.2.2.2.2.1 st.2.2.2.2.2.2.2.2.2.2.2.2.2.2 = some r) (fun st => [(6, .pointer (some ⟨(b1 + 1), 0, none⟩)), (7, .pointer (some ⟨(b1 + 2), 0, none⟩)), (8, .int .i64 st.1), (9, .pointer (some ⟨b2, 0, none⟩))]) (fun st => Sat w Z [((b1 + 1), .cells #[.int .i64 0, .int .i64 0, .slice none 0 0] 35 (0, 0)), ((b1 + 2), .cells #[.int .u64 0, .int .u64 0, .bool false, .int .i64 0, .bool false, .int .i64 0, .int .i64 0, .string (⟨#[]⟩ : ByteArray)] 29 (0, 0)), (b2, .cells #[slcV A00 a0.length, .int .u32 a1, .int .i64 st.2.1, .string st.2.2.1, .int .i64 st.2.2.2.1, .int .i64 st.2.2.2.2.1, slcV st.2.2.2.2.2.2.1 st.2.2.2.2.2.1.length, .int .u64 st.2.2.2.2.2.2.2.1, .int .u64 st.2.2.2.2.2.2.2.2.1, .bool st.2.2.2.2.2.2.2.2.2.1, .int .i64 st.2.2.2.2.2.2.2.2.2.2.1, .bool st.2.2.2.2.2.2.2.2.2.2.2.1, .int .i64 st.2.2.2.2.2.2.2.2.2.2.2.2.1, .int .i64 st.2.2.2.2.2.2.2.2.2.2.2.2.2.1, .string st.2.2.2.2.2.2.2.2.2.2.2.2.2.2] 62 (0, 0))] [] ([Row 1 (pl (encI .u32)) noK st.2.2.2.2.2.2.1 st.2.2.2.2.2.1, Row 1 (pl (encI .u32)) noK (SkL.nil (fun _ => ())) ([] : List Int), Row 3 api_Seg.encS api_Seg.inK A00 a0] ++ Glob)) (fun st hM => ?_) (fun K1 => ?_)
  ·
    obtain ⟨x75, x76, x77, x78, x79, x80, A81, x82, x83, x84, x85, x86, x87, x88, x89⟩ := st
    replace hM : tunnel_Unwrap.k1 x75 x76 x77 x78 x79 x80 x82 x83 x84 x85 x86 x87 x88 x89 = some r := hM
    unfold tunnel_Unwrap.k1 at hM
    show WP _ _ _ _ _ [(6, .pointer (some ⟨(b1 + 1), 0, none⟩)), (7, .pointer (some ⟨(b1 + 2), 0, none⟩)), (8, .int .i64 x75), (9, .pointer (some ⟨b2, 0, none⟩))] (Sat w Z [((b1 + 1), .cells #[.int .i64 0, .int .i64 0, .slice none 0 0] 35 (0, 0)), ((b1 + 2), .cells #[.int .u64 0, .int .u64 0, .bool false, .int .i64 0, .bool false, .int .i64 0, .int .i64 0, .string (⟨#[]⟩ : ByteArray)] 29 (0, 0)), (b2, .cells #[slcV A00 a0.length, .int .u32 a1, .int .i64 x76, .string x77, .int .i64 x78, .int .i64 x79, slcV A81 x80.length, .int .u64 x82, .int .u64 x83, .bool x84, .int .i64 x85, .bool x86, .int .i64 x87, .int .i64 x88, .string x89] 62 (0, 0))] [] ([Row 1 (pl (encI .u32)) noK A81 x80, Row 1 (pl (encI .u32)) noK (SkL.nil (fun _ => ())) ([] : List Int), Row 3 api_Seg.encS api_Seg.inK A00 a0] ++ Glob))
    refine WP.seq ?_
    refine WP.sub [6, 7, 8, 9] (L' := [(6, .pointer (some ⟨(b1 + 1), 0, none⟩)), (7, .pointer (some ⟨(b1 + 2), 0, none⟩)), (8, .int .i64 x75), (9, .pointer (some ⟨b2, 0, none⟩))]) (by kernel_rfl) ?_
    refine WP.pick [1, 2, 0] (by kernel_rfl) (by kernel_rfl : _ = [((b1 + 2), .cells #[.int .u64 0, .int .u64 0, .bool false, .int .i64 0, .bool false, .int .i64 0, .int .i64 0, .string (⟨#[]⟩ : ByteArray)] 29 (0, 0)), (b2, .cells #[slcV A00 a0.length, .int .u32 a1, .int .i64 x76, .string x77, .int .i64 x78, .int .i64 x79, slcV A81 x80.length, .int .u64 x82, .int .u64 x83, .bool x84, .int .i64 x85, .bool x86, .int .i64 x87, .int .i64 x88, .string x89] 62 (0, 0)), ((b1 + 1), .cells #[.int .i64 0, .int .i64 0, .slice none 0 0] 35 (0, 0))]) ?_
    refine WP.mixed (X := Unit) 9 [.val (.pointer (some ⟨b2, 0, none⟩)), .val (.pointer (some ⟨b2, 0, none⟩)), .val (.pointer (some ⟨b2, 4, none⟩)), .val (.agg #[.int .i64 x78, .int .i64 x79, slcV A81 x80.length]), .val (.pointer (some ⟨b2, 0, none⟩)), .val (.pointer (some ⟨b2, 0, none⟩)), .val (.pointer (some ⟨b2, 7, none⟩)), .val (.agg #[.int .u64 x82, .int .u64 x83, .bool x84, .int .i64 x85, .bool x86, .int .i64 x87, .int .i64 x88, .string x89]), .put 9 [] (fun tt => .cells #[.int .i64 x78, .int .i64 x79, slcV A81 x80.length] 35 (0, 0))] [((b1 + 2), .cells #[.int .u64 0, .int .u64 0, .bool false, .int .i64 0, .bool false, .int .i64 0, .int .i64 0, .string (⟨#[]⟩ : ByteArray)] 29 (0, 0)), (b2, .cells #[slcV A00 a0.length, .int .u32 a1, .int .i64 x76, .string x77, .int .i64 x78, .int .i64 x79, slcV A81 x80.length, .int .u64 x82, .int .u64 x83, .bool x84, .int .i64 x85, .bool x86, .int .i64 x87, .int .i64 x88, .string x89] 62 (0, 0))] [((b1 + 1), .cells #[.int .i64 0, .int .i64 0, .slice none 0 0] 35 (0, 0))] (by kernel_rfl) (by kernel_rfl) (by kernel_rfl) (by kernel_rfl) (Heads.val (fun tt Ψ => OpV.run [] [] (by kernel_rfl) (fun _ => by kernel_rfl)) (Heads.val (fun tt Ψ => OpV.run [] [] (by kernel_rfl) (fun _ => by kernel_rfl)) (Heads.val (fun tt Ψ => OpV.run [] [] (by kernel_rfl) (fun _ => by kernel_rfl)) (Heads.val (fun tt Ψ => OpV.run [1, 1, 1] [b2, b2, b2] (by kernel_rfl) (fun _ => by kernel_rfl)) (Heads.val (fun tt Ψ => OpV.run [] [] (by kernel_rfl) (fun _ => by kernel_rfl)) (Heads.val (fun tt Ψ => OpV.run [] [] (by kernel_rfl) (fun _ => by kernel_rfl)) (Heads.val (fun tt Ψ => OpV.run [] [] (by kernel_rfl) (fun _ => by kernel_rfl)) (Heads.val (fun tt Ψ => OpV.run [1, 1, 1, 1, 1, 1, 1, 1] [b2, b2, b2, b2, b2, b2, b2, b2] (by kernel_rfl) (fun _ => by kernel_rfl)) (Heads.put (fun x x' h => rfl) 0 (b1 + 1) (.cells #[.int .i64 0, .int .i64 0, .slice none 0 0] 35 (0, 0)) (fun tt => .cells #[.int .i64 0, .int .i64 0, .slice none 0 0] 35 (0, 0)) (by kernel_rfl) rfl (fun _ => by kernel_rfl) (fun tt Ψ => OpP.run [2, 2, 2] [(b1 + 1), (b1 + 1), (b1 + 1)] (by kernel_rfl) (fun _ _ => by kernel_rfl) (fun _ _ => by kernel_rfl)) Heads.nil))))))))) (fun s90 tt => [(33, .pointer (some ⟨b2, 0, none⟩)), (34, .pointer (some ⟨b2, 0, none⟩)), (35, .pointer (some ⟨b2, 4, none⟩)), (36, .agg #[.int .i64 x78, .int .i64 x79, slcV A81 x80.length]), (37, .pointer (some ⟨b2, 0, none⟩)), (38, .pointer (some ⟨b2, 0, none⟩)), (39, .pointer (some ⟨b2, 7, none⟩)), (40, .agg #[.int .u64 x82, .int .u64 x83, .bool x84, .int .i64 x85, .bool x86, .int .i64 x87, .int .i64 x88, .string x89]), (6, .pointer (some ⟨(b1 + 1), 0, none⟩)), (7, .pointer (some ⟨(b1 + 2), 0, none⟩)), (8, .int .i64 x75), (9, .pointer (some ⟨b2, 0, none⟩))]) (fun s90 tt => [((b1 + 2), .cells #[.int .u64 0, .int .u64 0, .bool false, .int .i64 0, .bool false, .int .i64 0, .int .i64 0, .string (⟨#[]⟩ : ByteArray)] 29 (0, 0)), (b2, .cells #[slcV A00 a0.length, .int .u32 a1, .int .i64 x76, .string x77, .int .i64 x78, .int .i64 x79, slcV A81 x80.length, .int .u64 x82, .int .u64 x83, .bool x84, .int .i64 x85, .bool x86, .int .i64 x87, .int .i64 x88, .string x89] 62 (0, 0)), ((b1 + 1), .cells #[.int .i64 x78, .int .i64 x79, slcV A81 x80.length] 35 (0, 0))]) (fun tt => ([] ++ [Row 1 (pl (encI .u32)) noK A81 x80, Row 1 (pl (encI .u32)) noK (SkL.nil (fun _ => ())) ([] : List Int), Row 3 api_Seg.encS api_Seg.inK A00 a0]) ++ Glob) (fun _ _ => by kernel_rfl) (fun _ _ => by kernel_rfl) (fun _ => by kernel_rfl) (fun s90 tt => ?_)
    refine WL.run 2 [0, 0, 0, 0, 0, 0, 0, 0] [6, 7, 8] (fun _ => [(6, .pointer (some ⟨(b1 + 1), 0, none⟩)), (7, .pointer (some ⟨(b1 + 2), 0, none⟩)), (8, .int .i64 0)]) (fun _ => [((b1 + 2), .cells #[.int .u64 x82, .int .u64 x83, .bool x84, .int .i64 x85, .bool x86, .int .i64 x87, .int .i64 x88, .string x89] 29 (0, 0)), (b2, .cells #[slcV A00 a0.length, .int .u32 a1, .int .i64 x76, .string x77, .int .i64 x78, .int .i64 x79, slcV A81 x80.length, .int .u64 x82, .int .u64 x83, .bool x84, .int .i64 x85, .bool x86, .int .i64 x87, .int .i64 x88, .string x89] 62 (0, 0)), ((b1 + 1), .cells #[.int .i64 x78, .int .i64 x79, slcV A81 x80.length] 35 (0, 0))]) (fun _ => [(b1 + 2), (b1 + 2), (b1 + 2), (b1 + 2), (b1 + 2), (b1 + 2), (b1 + 2), (b1 + 2)]) (fun _ => by kernel_rfl) (fun _ => ?_)
    refine WP.done ?_
    refine WP.keep [true, false, true] (by kernel_rfl : _ = [((b1 + 2), .cells #[.int .u64 x82, .int .u64 x83, .bool x84, .int .i64 x85, .bool x86, .int .i64 x87, .int .i64 x88, .string x89] 29 (0, 0)), ((b1 + 1), .cells #[.int .i64 x78, .int .i64 x79, slcV A81 x80.length] 35 (0, 0))]) ?_
    obtain rfl := Option.some.inj hM
    exact WP.ret [1, 1, 1, 0, 0, 0, 0, 0, 0, 0, 0] [(b1 + 1), (b1 + 1), (b1 + 1), (b1 + 2), (b1 + 2), (b1 + 2), (b1 + 2), (b1 + 2), (b1 + 2), (b1 + 2), (b1 + 2)] (.tuple #[.agg #[.int .i64 x78, .int .i64 x79, slcV A81 x80.length], .agg #[.int .u64 x82, .int .u64 x83, .bool x84, .int .i64 x85, .bool x86, .int .i64 x87, .int .i64 x88, .string x89], .int .i64 0]) (by kernel_rfl) (fun w' hw => ⟨A81, rfl, (hw.pick [] (by kernel_rfl)).less (sub_ret [0] [2] (by kernel_rfl) (by kernel_rfl))⟩)
  ·
    refine WP.unroll 40 ?_
    refine WP.seq ?_
    refine WP.run [] [6, 7, 8, 9, 20, 21, 22] (fun _ => [(6, .pointer (some ⟨(b1 + 1), 0, none⟩)), (7, .pointer (some ⟨(b1 + 2), 0, none⟩)), (8, .int .i64 0), (9, .pointer (some ⟨b2, 0, none⟩)), (20, .agg #[.int .i64 1, .int .i64 2, .int .i64 3, .int .i64 4]), (21, .int .i64 0), (22, .bool true)]) (fun _ => [((b1 + 1), .cells #[.int .i64 0, .int .i64 0, .slice none 0 0] 35 (0, 0)), ((b1 + 2), .cells #[.int .u64 0, .int .u64 0, .bool false, .int .i64 0, .bool false, .int .i64 0, .int .i64 0, .string (⟨#[]⟩ : ByteArray)] 29 (0, 0)), (b2, .cells #[slcV A00 a0.length, .int .u32 a1, .int .i64 0, .string a2.Body, .int .i64 0, .int .i64 0, .slice none 0 0, .int .u64 0, .int .u64 0, .bool false, .int .i64 0, .bool false, .int .i64 0, .int .i64 0, .string (⟨#[]⟩ : ByteArray)] 62 (0, 0))]) (fun _ => []) (fun _ => by kernel_rfl) (fun _ => ?_)
    refine WP.seq ?_
    refine WP.yes rfl rfl ?_
    refine WP.skip ?_
    refine WP.seq ?_
    refine WP.block ?_
    refine WP.seq ?_
    refine WP.run [] [6, 7, 8, 9, 11, 12, 20, 21, 22, 23, 24] (fun _ => [(6, .pointer (some ⟨(b1 + 1), 0, none⟩)), (7, .pointer (some ⟨(b1 + 2), 0, none⟩)), (8, .int .i64 0), (9, .pointer (some ⟨b2, 0, none⟩)), (11, .int .i64 0), (12, .int .i64 1), (20, .agg #[.int .i64 1, .int .i64 2, .int .i64 3, .int .i64 4]), (21, .int .i64 0), (22, .bool true), (23, .int .i64 0), (24, .int .i64 1)]) (fun _ => [((b1 + 1), .cells #[.int .i64 0, .int .i64 0, .slice none 0 0] 35 (0, 0)), ((b1 + 2), .cells #[.int .u64 0, .int .u64 0, .bool false, .int .i64 0, .bool false, .int .i64 0, .int .i64 0, .string (⟨#[]⟩ : ByteArray)] 29 (0, 0)), (b2, .cells #[slcV A00 a0.length, .int .u32 a1, .int .i64 0, .string a2.Body, .int .i64 0, .int .i64 0, .slice none 0 0, .int .u64 0, .int .u64 0, .bool false, .int .i64 0, .bool false, .int .i64 0, .int .i64 0, .string (⟨#[]⟩ : ByteArray)] 62 (0, 0))]) (fun _ => []) (fun _ => by kernel_rfl) (fun _ => ?_)
    refine WP.seq ?_
    refine WP.region ?_
    refine WL.run 2 [] [6, 7, 8, 9, 11, 12, 20, 21, 22, 23, 24, 25, 26] (fun _ => [(6, .pointer (some ⟨(b1 + 1), 0, none⟩)), (7, .pointer (some ⟨(b1 + 2), 0, none⟩)), (8, .int .i64 0), (9, .pointer (some ⟨b2, 0, none⟩)), (11, .int .i64 0), (12, .int .i64 1), (20, .agg #[.int .i64 1, .int .i64 2, .int .i64 3, .int .i64 4]), (21, .int .i64 0), (22, .bool true), (23, .int .i64 0), (24, .int .i64 1), (25, .pointer (some ⟨b2, 0, none⟩)), (26, .int .i64 0)]) (fun _ => [((b1 + 1), .cells #[.int .i64 0, .int .i64 0, .slice none 0 0] 35 (0, 0)), ((b1 + 2), .cells #[.int .u64 0, .int .u64 0, .bool false, .int .i64 0, .bool false, .int .i64 0, .int .i64 0, .string (⟨#[]⟩ : ByteArray)] 29 (0, 0)), (b2, .cells #[slcV A00 a0.length, .int .u32 a1, .int .i64 0, .string a2.Body, .int .i64 0, .int .i64 0, .slice none 0 0, .int .u64 0, .int .u64 0, .bool false, .int .i64 0, .bool false, .int .i64 0, .int .i64 0, .string (⟨#[]⟩ : ByteArray)] 62 (0, 0))]) (fun _ => []) (fun _ => by kernel_rfl) (fun _ => ?_)
    refine WL.know (Row 1 (pl (encI .u32)) noK (SkL.nil (fun _ => ())) ([] : List Int)) [] [] (by kernel_rfl) (fun w _ => RowP.empty (fun _ => rfl)) ?_
    obtain ⟨⟨r7, r8, r9, r10, r11, r12, r13, r14, r15, r16, r17, r18, r19, r20⟩, h21, hM⟩ := bind_some hM
    dsimp only at hM
    refine WL.callX (F0 := [Row 3 api_Seg.encS api_Seg.inK A00 a0, Row 1 (pl (encI .u32)) noK (SkL.nil (fun _ => ())) ([] : List Int)]) [] [] [false, false, true] (fun _ => _) [1, 0] (by kernel_rfl) (tunnel_opener_step_calls k b2 A00 (SkL.nil (fun _ => ())) a0 a1 0 a2.Body 0 0 ([] : List Int) 0 0 false 0 false 0 0 (⟨#[]⟩ : ByteArray) 0 _ h21) rfl rfl (by kernel_rfl) (by kernel_rfl) (fun _ => rfl) (fun A22 => ?_)
    refine WL.run 1 [] [6, 7, 8, 9, 11, 12, 20, 21, 22, 23, 24, 25, 26, 27, 28] (fun _ => [(6, .pointer (some ⟨(b1 + 1), 0, none⟩)), (7, .pointer (some ⟨(b1 + 2), 0, none⟩)), (8, .int .i64 0), (9, .pointer (some ⟨b2, 0, none⟩)), (11, .int .i64 0), (12, .int .i64 1), (20, .agg #[.int .i64 1, .int .i64 2, .int .i64 3, .int .i64 4]), (21, .int .i64 0), (22, .bool true), (23, .int .i64 0), (24, .int .i64 1), (25, .pointer (some ⟨b2, 0, none⟩)), (26, .int .i64 0), (27, .bool r7), (28, .bool (!r7))]) (fun _ => [(b2, .cells #[slcV A00 a0.length, .int .u32 a1, .int .i64 r8, .string r9, .int .i64 r10, .int .i64 r11, slcV A22 r12.length, .int .u64 r13, .int .u64 r14, .bool r15, .int .i64 r16, .bool r17, .int .i64 r18, .int .i64 r19, .string r20] 62 (0, 0)), ((b1 + 1), .cells #[.int .i64 0, .int .i64 0, .slice none 0 0] 35 (0, 0)), ((b1 + 2), .cells #[.int .u64 0, .int .u64 0, .bool false, .int .i64 0, .bool false, .int .i64 0, .int .i64 0, .string (⟨#[]⟩ : ByteArray)] 29 (0, 0))]) (fun _ => []) (fun _ => by kernel_rfl) (fun _ => ?_)
    refine WP.done ?_
    refine WP.cond (!r7) rfl rfl (fun c23 => ?_) (fun c23 => ?_)
    · replace hM := cond_t hM c23
      refine WP.seq ?_
      refine WP.run [1, 1, 1, 2, 2, 2, 2, 2, 2, 2, 2] [6, 7, 8, 9, 11, 12, 20, 21, 22, 23, 24, 25, 26, 27, 28, 29, 30, 31] (fun _ => [(6, .pointer (some ⟨(b1 + 1), 0, none⟩)), (7, .pointer (some ⟨(b1 + 2), 0, none⟩)), (8, .int .i64 1), (9, .pointer (some ⟨b2, 0, none⟩)), (11, .int .i64 0), (12, .int .i64 1), (20, .agg #[.int .i64 1, .int .i64 2, .int .i64 3, .int .i64 4]), (21, .int .i64 0), (22, .bool true), (23, .int .i64 0), (24, .int .i64 1), (25, .pointer (some ⟨b2, 0, none⟩)), (26, .int .i64 0), (27, .bool r7), (28, .bool (!r7)), (29, .agg #[.int .i64 0, .int .i64 0, .slice none 0 0]), (30, .agg #[.int .u64 0, .int .u64 0, .bool false, .int .i64 0, .bool false, .int .i64 0, .int .i64 0, .string (⟨#[]⟩ : ByteArray)]), (31, .int .i64 1)]) (fun _ => [(b2, .cells #[slcV A00 a0.length, .int .u32 a1, .int .i64 r8, .string r9, .int .i64 r10, .int .i64 r11, slcV A22 r12.length, .int .u64 r13, .int .u64 r14, .bool r15, .int .i64 r16, .bool r17, .int .i64 r18, .int .i64 r19, .string r20] 62 (0, 0)), ((b1 + 1), .cells #[.int .i64 0, .int .i64 0, .slice none 0 0] 35 (0, 0)), ((b1 + 2), .cells #[.int .u64 0, .int .u64 0, .bool false, .int .i64 0, .bool false, .int .i64 0, .int .i64 0, .string (⟨#[]⟩ : ByteArray)] 29 (0, 0))]) (fun _ => [(b1 + 2), (b1 + 2), (b1 + 2), (b1 + 2), (b1 + 2), (b1 + 2), (b1 + 2), (b1 + 2), (b1 + 1), (b1 + 1), (b1 + 1)]) (fun _ => by kernel_rfl) (fun _ => ?_)
      obtain rfl := Option.some.inj hM
      exact WP.ret [1, 1, 1, 2, 2, 2, 2, 2, 2, 2, 2] [(b1 + 1), (b1 + 1), (b1 + 1), (b1 + 2), (b1 + 2), (b1 + 2), (b1 + 2), (b1 + 2), (b1 + 2), (b1 + 2), (b1 + 2)] (.tuple #[.agg #[.int .i64 0, .int .i64 0, slcV (SkL.nil (fun _ => ())) ([] : List Int).length], .agg #[.int .u64 0, .int .u64 0, .bool false, .int .i64 0, .bool false, .int .i64 0, .int .i64 0, .string (⟨#[]⟩ : ByteArray)], .int .i64 1]) (by kernel_rfl) (fun w' hw => ⟨(SkL.nil (fun _ => ())), rfl, (hw.pick [] (by kernel_rfl)).less (sub_ret [1] [2] (by kernel_rfl) (by kernel_rfl))⟩)
    · replace hM := cond_f hM c23
      refine WP.skip ?_
      refine WP.leave ?_
      refine WP.run [] [6, 7, 8, 9, 11, 12, 20, 21, 22, 23, 24, 25, 26, 27, 28, 32] (fun _ => [(6, .pointer (some ⟨(b1 + 1), 0, none⟩)), (7, .pointer (some ⟨(b1 + 2), 0, none⟩)), (8, .int .i64 0), (9, .pointer (some ⟨b2, 0, none⟩)), (11, .int .i64 0), (12, .int .i64 1), (20, .agg #[.int .i64 1, .int .i64 2, .int .i64 3, .int .i64 4]), (21, .int .i64 1), (22, .bool true), (23, .int .i64 0), (24, .int .i64 1), (25, .pointer (some ⟨b2, 0, none⟩)), (26, .int .i64 0), (27, .bool r7), (28, .bool (!r7)), (32, .int .i64 1)]) (fun _ => [(b2, .cells #[slcV A00 a0.length, .int .u32 a1, .int .i64 r8, .string r9, .int .i64 r10, .int .i64 r11, slcV A22 r12.length, .int .u64 r13, .int .u64 r14, .bool r15, .int .i64 r16, .bool r17, .int .i64 r18, .int .i64 r19, .string r20] 62 (0, 0)), ((b1 + 1), .cells #[.int .i64 0, .int .i64 0, .slice none 0 0] 35 (0, 0)), ((b1 + 2), .cells #[.int .u64 0, .int .u64 0, .bool false, .int .i64 0, .bool false, .int .i64 0, .int .i64 0, .string (⟨#[]⟩ : ByteArray)] 29 (0, 0))]) (fun _ => []) (fun _ => by kernel_rfl) (fun _ => ?_)
      refine WP.round ?_
      refine WP.seq ?_
      refine WP.run [] [6, 7, 8, 9, 11, 12, 20, 21, 22, 23, 24, 25, 26, 27, 28, 32] (fun _ => [(6, .pointer (some ⟨(b1 + 1), 0, none⟩)), (7, .pointer (some ⟨(b1 + 2), 0, none⟩)), (8, .int .i64 0), (9, .pointer (some ⟨b2, 0, none⟩)), (11, .int .i64 0), (12, .int .i64 1), (20, .agg #[.int .i64 1, .int .i64 2, .int .i64 3, .int .i64 4]), (21, .int .i64 1), (22, .bool true), (23, .int .i64 0), (24, .int .i64 1), (25, .pointer (some ⟨b2, 0, none⟩)), (26, .int .i64 0), (27, .bool r7), (28, .bool (!r7)), (32, .int .i64 1)]) (fun _ => [(b2, .cells #[slcV A00 a0.length, .int .u32 a1, .int .i64 r8, .string r9, .int .i64 r10, .int .i64 r11, slcV A22 r12.length, .int .u64 r13, .int .u64 r14, .bool r15, .int .i64 r16, .bool r17, .int .i64 r18, .int .i64 r19, .string r20] 62 (0, 0)), ((b1 + 1), .cells #[.int .i64 0, .int .i64 0, .slice none 0 0] 35 (0, 0)), ((b1 + 2), .cells #[.int .u64 0, .int .u64 0, .bool false, .int .i64 0, .bool false, .int .i64 0, .int .i64 0, .string (⟨#[]⟩ : ByteArray)] 29 (0, 0))]) (fun _ => []) (fun _ => by kernel_rfl) (fun _ => ?_)
      refine WP.seq ?_
      refine WP.yes rfl rfl ?_
      refine WP.skip ?_
      refine WP.seq ?_
      refine WP.block ?_
      refine WP.seq ?_
      refine WP.run [] [6, 7, 8, 9, 11, 12, 20, 21, 22, 23, 24, 25, 26, 27, 28, 32] (fun _ => [(6, .pointer (some ⟨(b1 + 1), 0, none⟩)), (7, .pointer (some ⟨(b1 + 2), 0, none⟩)), (8, .int .i64 0), (9, .pointer (some ⟨b2, 0, none⟩)), (11, .int .i64 1), (12, .int .i64 2), (20, .agg #[.int .i64 1, .int .i64 2, .int .i64 3, .int .i64 4]), (21, .int .i64 1), (22, .bool true), (23, .int .i64 1), (24, .int .i64 2), (25, .pointer (some ⟨b2, 0, none⟩)), (26, .int .i64 0), (27, .bool r7), (28, .bool (!r7)), (32, .int .i64 1)]) (fun _ => [(b2, .cells #[slcV A00 a0.length, .int .u32 a1, .int .i64 r8, .string r9, .int .i64 r10, .int .i64 r11, slcV A22 r12.length, .int .u64 r13, .int .u64 r14, .bool r15, .int .i64 r16, .bool r17, .int .i64 r18, .int .i64 r19, .string r20] 62 (0, 0)), ((b1 + 1), .cells #[.int .i64 0, .int .i64 0, .slice none 0 0] 35 (0, 0)), ((b1 + 2), .cells #[.int .u64 0, .int .u64 0, .bool false, .int .i64 0, .bool false, .int .i64 0, .int .i64 0, .string (⟨#[]⟩ : ByteArray)] 29 (0, 0))]) (fun _ => []) (fun _ => by kernel_rfl) (fun _ => ?_)
      refine WP.seq ?_
      refine WP.region ?_
      refine WL.run 2 [] [6, 7, 8, 9, 11, 12, 20, 21, 22, 23, 24, 25, 26, 27, 28, 32] (fun _ => [(6, .pointer (some ⟨(b1 + 1), 0, none⟩)), (7, .pointer (some ⟨(b1 + 2), 0, none⟩)), (8, .int .i64 0), (9, .pointer (some ⟨b2, 0, none⟩)), (11, .int .i64 1), (12, .int .i64 2), (20, .agg #[.int .i64 1, .int .i64 2, .int .i64 3, .int .i64 4]), (21, .int .i64 1), (22, .bool true), (23, .int .i64 1), (24, .int .i64 2), (25, .pointer (some ⟨b2, 0, none⟩)), (26, .int .i64 1), (27, .bool r7), (28, .bool (!r7)), (32, .int .i64 1)]) (fun _ => [(b2, .cells #[slcV A00 a0.length, .int .u32 a1, .int .i64 r8, .string r9, .int .i64 r10, .int .i64 r11, slcV A22 r12.length, .int .u64 r13, .int .u64 r14, .bool r15, .int .i64 r16, .bool r17, .int .i64 r18, .int .i64 r19, .string r20] 62 (0, 0)), ((b1 + 1), .cells #[.int .i64 0, .int .i64 0, .slice none 0 0] 35 (0, 0)), ((b1 + 2), .cells #[.int .u64 0, .int .u64 0, .bool false, .int .i64 0, .bool false, .int .i64 0, .int .i64 0, .string (⟨#[]⟩ : ByteArray)] 29 (0, 0))]) (fun _ => []) (fun _ => by kernel_rfl) (fun _ => ?_)
      obtain ⟨⟨r24, r25, r26, r27, r28, r29, r30, r31, r32, r33, r34, r35, r36, r37⟩, h38, hM⟩ := bind_some hM
      dsimp only at hM
      refine WL.callX (F0 := [Row 3 api_Seg.encS api_Seg.inK A00 a0, Row 1 (pl (encI .u32)) noK A22 r12]) [] [] [true, false, false] (fun _ => _) [2, 0] (by kernel_rfl) (tunnel_opener_step_calls k b2 A00 A22 a0 a1 r8 r9 r10 r11 r12 r13 r14 r15 r16 r17 r18 r19 r20 1 _ h38) rfl rfl (by kernel_rfl) (by kernel_rfl) (fun _ => rfl) (fun A39 => ?_)
      refine WL.run 1 [] [6, 7, 8, 9, 11, 12, 20, 21, 22, 23, 24, 25, 26, 27, 28, 32] (fun _ => [(6, .pointer (some ⟨(b1 + 1), 0, none⟩)), (7, .pointer (some ⟨(b1 + 2), 0, none⟩)), (8, .int .i64 0), (9, .pointer (some ⟨b2, 0, none⟩)), (11, .int .i64 1), (12, .int .i64 2), (20, .agg #[.int .i64 1, .int .i64 2, .int .i64 3, .int .i64 4]), (21, .int .i64 1), (22, .bool true), (23, .int .i64 1), (24, .int .i64 2), (25, .pointer (some ⟨b2, 0, none⟩)), (26, .int .i64 1), (27, .bool r24), (28, .bool (!r24)), (32, .int .i64 1)]) (fun _ => [(b2, .cells #[slcV A00 a0.length, .int .u32 a1, .int .i64 r25, .string r26, .int .i64 r27, .int .i64 r28, slcV A39 r29.length, .int .u64 r30, .int .u64 r31, .bool r32, .int .i64 r33, .bool r34, .int .i64 r35, .int .i64 r36, .string r37] 62 (0, 0)), ((b1 + 1), .cells #[.int .i64 0, .int .i64 0, .slice none 0 0] 35 (0, 0)), ((b1 + 2), .cells #[.int .u64 0, .int .u64 0, .bool false, .int .i64 0, .bool false, .int .i64 0, .int .i64 0, .string (⟨#[]⟩ : ByteArray)] 29 (0, 0))]) (fun _ => []) (fun _ => by kernel_rfl) (fun _ => ?_)
      refine WP.done ?_
      refine WP.cond (!r24) rfl rfl (fun c40 => ?_) (fun c40 => ?_)
      · replace hM := cond_t hM c40
        refine WP.seq ?_
        refine WP.run [1, 1, 1, 2, 2, 2, 2, 2, 2, 2, 2] [6, 7, 8, 9, 11, 12, 20, 21, 22, 23, 24, 25, 26, 27, 28, 29, 30, 31, 32] (fun _ => [(6, .pointer (some ⟨(b1 + 1), 0, none⟩)), (7, .pointer (some ⟨(b1 + 2), 0, none⟩)), (8, .int .i64 2), (9, .pointer (some ⟨b2, 0, none⟩)), (11, .int .i64 1), (12, .int .i64 2), (20, .agg #[.int .i64 1, .int .i64 2, .int .i64 3, .int .i64 4]), (21, .int .i64 1), (22, .bool true), (23, .int .i64 1), (24, .int .i64 2), (25, .pointer (some ⟨b2, 0, none⟩)), (26, .int .i64 1), (27, .bool r24), (28, .bool (!r24)), (29, .agg #[.int .i64 0, .int .i64 0, .slice none 0 0]), (30, .agg #[.int .u64 0, .int .u64 0, .bool false, .int .i64 0, .bool false, .int .i64 0, .int .i64 0, .string (⟨#[]⟩ : ByteArray)]), (31, .int .i64 2), (32, .int .i64 1)]) (fun _ => [(b2, .cells #[slcV A00 a0.length, .int .u32 a1, .int .i64 r25, .string r26, .int .i64 r27, .int .i64 r28, slcV A39 r29.length, .int .u64 r30, .int .u64 r31, .bool r32, .int .i64 r33, .bool r34, .int .i64 r35, .int .i64 r36, .string r37] 62 (0, 0)), ((b1 + 1), .cells #[.int .i64 0, .int .i64 0, .slice none 0 0] 35 (0, 0)), ((b1 + 2), .cells #[.int .u64 0, .int .u64 0, .bool false, .int .i64 0, .bool false, .int .i64 0, .int .i64 0, .string (⟨#[]⟩ : ByteArray)] 29 (0, 0))]) (fun _ => [(b1 + 2), (b1 + 2), (b1 + 2), (b1 + 2), (b1 + 2), (b1 + 2), (b1 + 2), (b1 + 2), (b1 + 1), (b1 + 1), (b1 + 1)]) (fun _ => by kernel_rfl) (fun _ => ?_)
        obtain rfl := Option.some.inj hM
        exact WP.ret [1, 1, 1, 2, 2, 2, 2, 2, 2, 2, 2] [(b1 + 1), (b1 + 1), (b1 + 1), (b1 + 2), (b1 + 2), (b1 + 2), (b1 + 2), (b1 + 2), (b1 + 2), (b1 + 2), (b1 + 2)] (.tuple #[.agg #[.int .i64 0, .int .i64 0, slcV (SkL.nil (fun _ => ())) ([] : List Int).length], .agg #[.int .u64 0, .int .u64 0, .bool false, .int .i64 0, .bool false, .int .i64 0, .int .i64 0, .string (⟨#[]⟩ : ByteArray)], .int .i64 2]) (by kernel_rfl) (fun w' hw => ⟨(SkL.nil (fun _ => ())), rfl, (hw.pick [] (by kernel_rfl)).less (sub_ret [2] [3] (by kernel_rfl) (by kernel_rfl))⟩)
      · replace hM := cond_f hM c40
        refine WP.skip ?_
        refine WP.leave ?_
        refine WP.run [] [6, 7, 8, 9, 11, 12, 20, 21, 22, 23, 24, 25, 26, 27, 28, 32] (fun _ => [(6, .pointer (some ⟨(b1 + 1), 0, none⟩)), (7, .pointer (some ⟨(b1 + 2), 0, none⟩)), (8, .int .i64 0), (9, .pointer (some ⟨b2, 0, none⟩)), (11, .int .i64 1), (12, .int .i64 2), (20, .agg #[.int .i64 1, .int .i64 2, .int .i64 3, .int .i64 4]), (21, .int .i64 2), (22, .bool true), (23, .int .i64 1), (24, .int .i64 2), (25, .pointer (some ⟨b2, 0, none⟩)), (26, .int .i64 1), (27, .bool r24), (28, .bool (!r24)), (32, .int .i64 2)]) (fun _ => [(b2, .cells #[slcV A00 a0.length, .int .u32 a1, .int .i64 r25, .string r26, .int .i64 r27, .int .i64 r28, slcV A39 r29.length, .int .u64 r30, .int .u64 r31, .bool r32, .int .i64 r33, .bool r34, .int .i64 r35, .int .i64 r36, .string r37] 62 (0, 0)), ((b1 + 1), .cells #[.int .i64 0, .int .i64 0, .slice none 0 0] 35 (0, 0)), ((b1 + 2), .cells #[.int .u64 0, .int .u64 0, .bool false, .int .i64 0, .bool false, .int .i64 0, .int .i64 0, .string (⟨#[]⟩ : ByteArray)] 29 (0, 0))]) (fun _ => []) (fun _ => by kernel_rfl) (fun _ => ?_)
        refine WP.round ?_
        refine WP.seq ?_
        refine WP.run [] [6, 7, 8, 9, 11, 12, 20, 21, 22, 23, 24, 25, 26, 27, 28, 32] (fun _ => [(6, .pointer (some ⟨(b1 + 1), 0, none⟩)), (7, .pointer (some ⟨(b1 + 2), 0, none⟩)), (8, .int .i64 0), (9, .pointer (some ⟨b2, 0, none⟩)), (11, .int .i64 1), (12, .int .i64 2), (20, .agg #[.int .i64 1, .int .i64 2, .int .i64 3, .int .i64 4]), (21, .int .i64 2), (22, .bool true), (23, .int .i64 1), (24, .int .i64 2), (25, .pointer (some ⟨b2, 0, none⟩)), (26, .int .i64 1), (27, .bool r24), (28, .bool (!r24)), (32, .int .i64 2)]) (fun _ => [(b2, .cells #[slcV A00 a0.length, .int .u32 a1, .int .i64 r25, .string r26, .int .i64 r27, .int .i64 r28, slcV A39 r29.length, .int .u64 r30, .int .u64 r31, .bool r32, .int .i64 r33, .bool r34, .int .i64 r35, .int .i64 r36, .string r37] 62 (0, 0)), ((b1 + 1), .cells #[.int .i64 0, .int .i64 0, .slice none 0 0] 35 (0, 0)), ((b1 + 2), .cells #[.int .u64 0, .int .u64 0, .bool false, .int .i64 0, .bool false, .int .i64 0, .int .i64 0, .string (⟨#[]⟩ : ByteArray)] 29 (0, 0))]) (fun _ => []) (fun _ => by kernel_rfl) (fun _ => ?_)
        refine WP.seq ?_
        refine WP.yes rfl rfl ?_
        refine WP.skip ?_
        refine WP.seq ?_
        refine WP.block ?_
        refine WP.seq ?_
        refine WP.run [] [6, 7, 8, 9, 11, 12, 20, 21, 22, 23, 24, 25, 26, 27, 28, 32] (fun _ => [(6, .pointer (some ⟨(b1 + 1), 0, none⟩)), (7, .pointer (some ⟨(b1 + 2), 0, none⟩)), (8, .int .i64 0), (9, .pointer (some ⟨b2, 0, none⟩)), (11, .int .i64 2), (12, .int .i64 3), (20, .agg #[.int .i64 1, .int .i64 2, .int .i64 3, .int .i64 4]), (21, .int .i64 2), (22, .bool true), (23, .int .i64 2), (24, .int .i64 3), (25, .pointer (some ⟨b2, 0, none⟩)), (26, .int .i64 1), (27, .bool r24), (28, .bool (!r24)), (32, .int .i64 2)]) (fun _ => [(b2, .cells #[slcV A00 a0.length, .int .u32 a1, .int .i64 r25, .string r26, .int .i64 r27, .int .i64 r28, slcV A39 r29.length, .int .u64 r30, .int .u64 r31, .bool r32, .int .i64 r33, .bool r34, .int .i64 r35, .int .i64 r36, .string r37] 62 (0, 0)), ((b1 + 1), .cells #[.int .i64 0, .int .i64 0, .slice none 0 0] 35 (0, 0)), ((b1 + 2), .cells #[.int .u64 0, .int .u64 0, .bool false, .int .i64 0, .bool false, .int .i64 0, .int .i64 0, .string (⟨#[]⟩ : ByteArray)] 29 (0, 0))]) (fun _ => []) (fun _ => by kernel_rfl) (fun _ => ?_)
        refine WP.seq ?_
        refine WP.region ?_
        refine WL.run 2 [] [6, 7, 8, 9, 11, 12, 20, 21, 22, 23, 24, 25, 26, 27, 28, 32] (fun _ => [(6, .pointer (some ⟨(b1 + 1), 0, none⟩)), (7, .pointer (some ⟨(b1 + 2), 0, none⟩)), (8, .int .i64 0), (9, .pointer (some ⟨b2, 0, none⟩)), (11, .int .i64 2), (12, .int .i64 3), (20, .agg #[.int .i64 1, .int .i64 2, .int .i64 3, .int .i64 4]), (21, .int .i64 2), (22, .bool true), (23, .int .i64 2), (24, .int .i64 3), (25, .pointer (some ⟨b2, 0, none⟩)), (26, .int .i64 2), (27, .bool r24), (28, .bool (!r24)), (32, .int .i64 2)]) (fun _ => [(b2, .cells #[slcV A00 a0.length, .int .u32 a1, .int .i64 r25, .string r26, .int .i64 r27, .int .i64 r28, slcV A39 r29.length, .int .u64 r30, .int .u64 r31, .bool r32, .int .i64 r33, .bool r34, .int .i64 r35, .int .i64 r36, .string r37] 62 (0, 0)), ((b1 + 1), .cells #[.int .i64 0, .int .i64 0, .slice none 0 0] 35 (0, 0)), ((b1 + 2), .cells #[.int .u64 0, .int .u64 0, .bool false, .int .i64 0, .bool false, .int .i64 0, .int .i64 0, .string (⟨#[]⟩ : ByteArray)] 29 (0, 0))]) (fun _ => []) (fun _ => by kernel_rfl) (fun _ => ?_)
        obtain ⟨⟨r41, r42, r43, r44, r45, r46, r47, r48, r49, r50, r51, r52, r53, r54⟩, h55, hM⟩ := bind_some hM
        dsimp only at hM
        refine WL.callX (F0 := [Row 3 api_Seg.encS api_Seg.inK A00 a0, Row 1 (pl (encI .u32)) noK A39 r29]) [] [] [true, false, false] (fun _ => _) [3, 0] (by kernel_rfl) (tunnel_opener_step_calls k b2 A00 A39 a0 a1 r25 r26 r27 r28 r29 r30 r31 r32 r33 r34 r35 r36 r37 2 _ h55) rfl rfl (by kernel_rfl) (by kernel_rfl) (fun _ => rfl) (fun A56 => ?_)
        refine WL.run 1 [] [6, 7, 8, 9, 11, 12, 20, 21, 22, 23, 24, 25, 26, 27, 28, 32] (fun _ => [(6, .pointer (some ⟨(b1 + 1), 0, none⟩)), (7, .pointer (some ⟨(b1 + 2), 0, none⟩)), (8, .int .i64 0), (9, .pointer (some ⟨b2, 0, none⟩)), (11, .int .i64 2), (12, .int .i64 3), (20, .agg #[.int .i64 1, .int .i64 2, .int .i64 3, .int .i64 4]), (21, .int .i64 2), (22, .bool true), (23, .int .i64 2), (24, .int .i64 3), (25, .pointer (some ⟨b2, 0, none⟩)), (26, .int .i64 2), (27, .bool r41), (28, .bool (!r41)), (32, .int .i64 2)]) (fun _ => [(b2, .cells #[slcV A00 a0.length, .int .u32 a1, .int .i64 r42, .string r43, .int .i64 r44, .int .i64 r45, slcV A56 r46.length, .int .u64 r47, .int .u64 r48, .bool r49, .int .i64 r50, .bool r51, .int .i64 r52, .int .i64 r53, .string r54] 62 (0, 0)), ((b1 + 1), .cells #[.int .i64 0, .int .i64 0, .slice none 0 0] 35 (0, 0)), ((b1 + 2), .cells #[.int .u64 0, .int .u64 0, .bool false, .int .i64 0, .bool false, .int .i64 0, .int .i64 0, .string (⟨#[]⟩ : ByteArray)] 29 (0, 0))]) (fun _ => []) (fun _ => by kernel_rfl) (fun _ => ?_)
        refine WP.done ?_
        refine WP.cond (!r41) rfl rfl (fun c57 => ?_) (fun c57 => ?_)
        · replace hM := cond_t hM c57
          refine WP.seq ?_
          refine WP.run [1, 1, 1, 2, 2, 2, 2, 2, 2, 2, 2] [6, 7, 8, 9, 11, 12, 20, 21, 22, 23, 24, 25, 26, 27, 28, 29, 30, 31, 32] (fun _ => [(6, .pointer (some ⟨(b1 + 1), 0, none⟩)), (7, .pointer (some ⟨(b1 + 2), 0, none⟩)), (8, .int .i64 3), (9, .pointer (some ⟨b2, 0, none⟩)), (11, .int .i64 2), (12, .int .i64 3), (20, .agg #[.int .i64 1, .int .i64 2, .int .i64 3, .int .i64 4]), (21, .int .i64 2), (22, .bool true), (23, .int .i64 2), (24, .int .i64 3), (25, .pointer (some ⟨b2, 0, none⟩)), (26, .int .i64 2), (27, .bool r41), (28, .bool (!r41)), (29, .agg #[.int .i64 0, .int .i64 0, .slice none 0 0]), (30, .agg #[.int .u64 0, .int .u64 0, .bool false, .int .i64 0, .bool false, .int .i64 0, .int .i64 0, .string (⟨#[]⟩ : ByteArray)]), (31, .int .i64 3), (32, .int .i64 2)]) (fun _ => [(b2, .cells #[slcV A00 a0.length, .int .u32 a1, .int .i64 r42, .string r43, .int .i64 r44, .int .i64 r45, slcV A56 r46.length, .int .u64 r47, .int .u64 r48, .bool r49, .int .i64 r50, .bool r51, .int .i64 r52, .int .i64 r53, .string r54] 62 (0, 0)), ((b1 + 1), .cells #[.int .i64 0, .int .i64 0, .slice none 0 0] 35 (0, 0)), ((b1 + 2), .cells #[.int .u64 0, .int .u64 0, .bool false, .int .i64 0, .bool false, .int .i64 0, .int .i64 0, .string (⟨#[]⟩ : ByteArray)] 29 (0, 0))]) (fun _ => [(b1 + 2), (b1 + 2), (b1 + 2), (b1 + 2), (b1 + 2), (b1 + 2), (b1 + 2), (b1 + 2), (b1 + 1), (b1 + 1), (b1 + 1)]) (fun _ => by kernel_rfl) (fun _ => ?_)
          obtain rfl := Option.some.inj hM
          exact WP.ret [1, 1, 1, 2, 2, 2, 2, 2, 2, 2, 2] [(b1 + 1), (b1 + 1), (b1 + 1), (b1 + 2), (b1 + 2), (b1 + 2), (b1 + 2), (b1 + 2), (b1 + 2), (b1 + 2), (b1 + 2)] (.tuple #[.agg #[.int .i64 0, .int .i64 0, slcV (SkL.nil (fun _ => ())) ([] : List Int).length], .agg #[.int .u64 0, .int .u64 0, .bool false, .int .i64 0, .bool false, .int .i64 0, .int .i64 0, .string (⟨#[]⟩ : ByteArray)], .int .i64 3]) (by kernel_rfl) (fun w' hw => ⟨(SkL.nil (fun _ => ())), rfl, (hw.pick [] (by kernel_rfl)).less (sub_ret [3] [4] (by kernel_rfl) (by kernel_rfl))⟩)
        · replace hM := cond_f hM c57
          refine WP.skip ?_
          refine WP.leave ?_
          refine WP.run [] [6, 7, 8, 9, 11, 12, 20, 21, 22, 23, 24, 25, 26, 27, 28, 32] (fun _ => [(6, .pointer (some ⟨(b1 + 1), 0, none⟩)), (7, .pointer (some ⟨(b1 + 2), 0, none⟩)), (8, .int .i64 0), (9, .pointer (some ⟨b2, 0, none⟩)), (11, .int .i64 2), (12, .int .i64 3), (20, .agg #[.int .i64 1, .int .i64 2, .int .i64 3, .int .i64 4]), (21, .int .i64 3), (22, .bool true), (23, .int .i64 2), (24, .int .i64 3), (25, .pointer (some ⟨b2, 0, none⟩)), (26, .int .i64 2), (27, .bool r41), (28, .bool (!r41)), (32, .int .i64 3)]) (fun _ => [(b2, .cells #[slcV A00 a0.length, .int .u32 a1, .int .i64 r42, .string r43, .int .i64 r44, .int .i64 r45, slcV A56 r46.length, .int .u64 r47, .int .u64 r48, .bool r49, .int .i64 r50, .bool r51, .int .i64 r52, .int .i64 r53, .string r54] 62 (0, 0)), ((b1 + 1), .cells #[.int .i64 0, .int .i64 0, .slice none 0 0] 35 (0, 0)), ((b1 + 2), .cells #[.int .u64 0, .int .u64 0, .bool false, .int .i64 0, .bool false, .int .i64 0, .int .i64 0, .string (⟨#[]⟩ : ByteArray)] 29 (0, 0))]) (fun _ => []) (fun _ => by kernel_rfl) (fun _ => ?_)
          refine WP.round ?_
          refine WP.seq ?_
          refine WP.run [] [6, 7, 8, 9, 11, 12, 20, 21, 22, 23, 24, 25, 26, 27, 28, 32] (fun _ => [(6, .pointer (some ⟨(b1 + 1), 0, none⟩)), (7, .pointer (some ⟨(b1 + 2), 0, none⟩)), (8, .int .i64 0), (9, .pointer (some ⟨b2, 0, none⟩)), (11, .int .i64 2), (12, .int .i64 3), (20, .agg #[.int .i64 1, .int .i64 2, .int .i64 3, .int .i64 4]), (21, .int .i64 3), (22, .bool true), (23, .int .i64 2), (24, .int .i64 3), (25, .pointer (some ⟨b2, 0, none⟩)), (26, .int .i64 2), (27, .bool r41), (28, .bool (!r41)), (32, .int .i64 3)]) (fun _ => [(b2, .cells #[slcV A00 a0.length, .int .u32 a1, .int .i64 r42, .string r43, .int .i64 r44, .int .i64 r45, slcV A56 r46.length, .int .u64 r47, .int .u64 r48, .bool r49, .int .i64 r50, .bool r51, .int .i64 r52, .int .i64 r53, .string r54] 62 (0, 0)), ((b1 + 1), .cells #[.int .i64 0, .int .i64 0, .slice none 0 0] 35 (0, 0)), ((b1 + 2), .cells #[.int .u64 0, .int .u64 0, .bool false, .int .i64 0, .bool false, .int .i64 0, .int .i64 0, .string (⟨#[]⟩ : ByteArray)] 29 (0, 0))]) (fun _ => []) (fun _ => by kernel_rfl) (fun _ => ?_)
          refine WP.seq ?_
          refine WP.yes rfl rfl ?_
          refine WP.skip ?_
          refine WP.seq ?_
          refine WP.block ?_
          refine WP.seq ?_
          refine WP.run [] [6, 7, 8, 9, 11, 12, 20, 21, 22, 23, 24, 25, 26, 27, 28, 32] (fun _ => [(6, .pointer (some ⟨(b1 + 1), 0, none⟩)), (7, .pointer (some ⟨(b1 + 2), 0, none⟩)), (8, .int .i64 0), (9, .pointer (some ⟨b2, 0, none⟩)), (11, .int .i64 3), (12, .int .i64 4), (20, .agg #[.int .i64 1, .int .i64 2, .int .i64 3, .int .i64 4]), (21, .int .i64 3), (22, .bool true), (23, .int .i64 3), (24, .int .i64 4), (25, .pointer (some ⟨b2, 0, none⟩)), (26, .int .i64 2), (27, .bool r41), (28, .bool (!r41)), (32, .int .i64 3)]) (fun _ => [(b2, .cells #[slcV A00 a0.length, .int .u32 a1, .int .i64 r42, .string r43, .int .i64 r44, .int .i64 r45, slcV A56 r46.length, .int .u64 r47, .int .u64 r48, .bool r49, .int .i64 r50, .bool r51, .int .i64 r52, .int .i64 r53, .string r54] 62 (0, 0)), ((b1 + 1), .cells #[.int .i64 0, .int .i64 0, .slice none 0 0] 35 (0, 0)), ((b1 + 2), .cells #[.int .u64 0, .int .u64 0, .bool false, .int .i64 0, .bool false, .int .i64 0, .int .i64 0, .string (⟨#[]⟩ : ByteArray)] 29 (0, 0))]) (fun _ => []) (fun _ => by kernel_rfl) (fun _ => ?_)
          refine WP.seq ?_
          refine WP.region ?_
          refine WL.run 2 [] [6, 7, 8, 9, 11, 12, 20, 21, 22, 23, 24, 25, 26, 27, 28, 32] (fun _ => [(6, .pointer (some ⟨(b1 + 1), 0, none⟩)), (7, .pointer (some ⟨(b1 + 2), 0, none⟩)), (8, .int .i64 0), (9, .pointer (some ⟨b2, 0, none⟩)), (11, .int .i64 3), (12, .int .i64 4), (20, .agg #[.int .i64 1, .int .i64 2, .int .i64 3, .int .i64 4]), (21, .int .i64 3), (22, .bool true), (23, .int .i64 3), (24, .int .i64 4), (25, .pointer (some ⟨b2, 0, none⟩)), (26, .int .i64 3), (27, .bool r41), (28, .bool (!r41)), (32, .int .i64 3)]) (fun _ => [(b2, .cells #[slcV A00 a0.length, .int .u32 a1, .int .i64 r42, .string r43, .int .i64 r44, .int .i64 r45, slcV A56 r46.length, .int .u64 r47, .int .u64 r48, .bool r49, .int .i64 r50, .bool r51, .int .i64 r52, .int .i64 r53, .string r54] 62 (0, 0)), ((b1 + 1), .cells #[.int .i64 0, .int .i64 0, .slice none 0 0] 35 (0, 0)), ((b1 + 2), .cells #[.int .u64 0, .int .u64 0, .bool false, .int .i64 0, .bool false, .int .i64 0, .int .i64 0, .string (⟨#[]⟩ : ByteArray)] 29 (0, 0))]) (fun _ => []) (fun _ => by kernel_rfl) (fun _ => ?_)
          obtain ⟨⟨r58, r59, r60, r61, r62, r63, r64, r65, r66, r67, r68, r69, r70, r71⟩, h72, hM⟩ := bind_some hM
          dsimp only at hM
          refine WL.callX (F0 := [Row 3 api_Seg.encS api_Seg.inK A00 a0, Row 1 (pl (encI .u32)) noK A56 r46]) [] [] [true, false, false] (fun _ => _) [4, 0] (by kernel_rfl) (tunnel_opener_step_calls k b2 A00 A56 a0 a1 r42 r43 r44 r45 r46 r47 r48 r49 r50 r51 r52 r53 r54 3 _ h72) rfl rfl (by kernel_rfl) (by kernel_rfl) (fun _ => rfl) (fun A73 => ?_)
          refine WL.run 1 [] [6, 7, 8, 9, 11, 12, 20, 21, 22, 23, 24, 25, 26, 27, 28, 32] (fun _ => [(6, .pointer (some ⟨(b1 + 1), 0, none⟩)), (7, .pointer (some ⟨(b1 + 2), 0, none⟩)), (8, .int .i64 0), (9, .pointer (some ⟨b2, 0, none⟩)), (11, .int .i64 3), (12, .int .i64 4), (20, .agg #[.int .i64 1, .int .i64 2, .int .i64 3, .int .i64 4]), (21, .int .i64 3), (22, .bool true), (23, .int .i64 3), (24, .int .i64 4), (25, .pointer (some ⟨b2, 0, none⟩)), (26, .int .i64 3), (27, .bool r58), (28, .bool (!r58)), (32, .int .i64 3)]) (fun _ => [(b2, .cells #[slcV A00 a0.length, .int .u32 a1, .int .i64 r59, .string r60, .int .i64 r61, .int .i64 r62, slcV A73 r63.length, .int .u64 r64, .int .u64 r65, .bool r66, .int .i64 r67, .bool r68, .int .i64 r69, .int .i64 r70, .string r71] 62 (0, 0)), ((b1 + 1), .cells #[.int .i64 0, .int .i64 0, .slice none 0 0] 35 (0, 0)), ((b1 + 2), .cells #[.int .u64 0, .int .u64 0, .bool false, .int .i64 0, .bool false, .int .i64 0, .int .i64 0, .string (⟨#[]⟩ : ByteArray)] 29 (0, 0))]) (fun _ => []) (fun _ => by kernel_rfl) (fun _ => ?_)
          refine WP.done ?_
          refine WP.cond (!r58) rfl rfl (fun c74 => ?_) (fun c74 => ?_)
          · replace hM := cond_t hM c74
            refine WP.seq ?_
            refine WP.run [1, 1, 1, 2, 2, 2, 2, 2, 2, 2, 2] [6, 7, 8, 9, 11, 12, 20, 21, 22, 23, 24, 25, 26, 27, 28, 29, 30, 31, 32] (fun _ => [(6, .pointer (some ⟨(b1 + 1), 0, none⟩)), (7, .pointer (some ⟨(b1 + 2), 0, none⟩)), (8, .int .i64 4), (9, .pointer (some ⟨b2, 0, none⟩)), (11, .int .i64 3), (12, .int .i64 4), (20, .agg #[.int .i64 1, .int .i64 2, .int .i64 3, .int .i64 4]), (21, .int .i64 3), (22, .bool true), (23, .int .i64 3), (24, .int .i64 4), (25, .pointer (some ⟨b2, 0, none⟩)), (26, .int .i64 3), (27, .bool r58), (28, .bool (!r58)), (29, .agg #[.int .i64 0, .int .i64 0, .slice none 0 0]), (30, .agg #[.int .u64 0, .int .u64 0, .bool false, .int .i64 0, .bool false, .int .i64 0, .int .i64 0, .string (⟨#[]⟩ : ByteArray)]), (31, .int .i64 4), (32, .int .i64 3)]) (fun _ => [(b2, .cells #[slcV A00 a0.length, .int .u32 a1, .int .i64 r59, .string r60, .int .i64 r61, .int .i64 r62, slcV A73 r63.length, .int .u64 r64, .int .u64 r65, .bool r66, .int .i64 r67, .bool r68, .int .i64 r69, .int .i64 r70, .string r71] 62 (0, 0)), ((b1 + 1), .cells #[.int .i64 0, .int .i64 0, .slice none 0 0] 35 (0, 0)), ((b1 + 2), .cells #[.int .u64 0, .int .u64 0, .bool false, .int .i64 0, .bool false, .int .i64 0, .int .i64 0, .string (⟨#[]⟩ : ByteArray)] 29 (0, 0))]) (fun _ => [(b1 + 2), (b1 + 2), (b1 + 2), (b1 + 2), (b1 + 2), (b1 + 2), (b1 + 2), (b1 + 2), (b1 + 1), (b1 + 1), (b1 + 1)]) (fun _ => by kernel_rfl) (fun _ => ?_)
            obtain rfl := Option.some.inj hM
            exact WP.ret [1, 1, 1, 2, 2, 2, 2, 2, 2, 2, 2] [(b1 + 1), (b1 + 1), (b1 + 1), (b1 + 2), (b1 + 2), (b1 + 2), (b1 + 2), (b1 + 2), (b1 + 2), (b1 + 2), (b1 + 2)] (.tuple #[.agg #[.int .i64 0, .int .i64 0, slcV (SkL.nil (fun _ => ())) ([] : List Int).length], .agg #[.int .u64 0, .int .u64 0, .bool false, .int .i64 0, .bool false, .int .i64 0, .int .i64 0, .string (⟨#[]⟩ : ByteArray)], .int .i64 4]) (by kernel_rfl) (fun w' hw => ⟨(SkL.nil (fun _ => ())), rfl, (hw.pick [] (by kernel_rfl)).less (sub_ret [4] [5] (by kernel_rfl) (by kernel_rfl))⟩)
          · replace hM := cond_f hM c74
            refine WP.skip ?_
            refine WP.leave ?_
            refine WP.run [] [6, 7, 8, 9, 11, 12, 20, 21, 22, 23, 24, 25, 26, 27, 28, 32] (fun _ => [(6, .pointer (some ⟨(b1 + 1), 0, none⟩)), (7, .pointer (some ⟨(b1 + 2), 0, none⟩)), (8, .int .i64 0), (9, .pointer (some ⟨b2, 0, none⟩)), (11, .int .i64 3), (12, .int .i64 4), (20, .agg #[.int .i64 1, .int .i64 2, .int .i64 3, .int .i64 4]), (21, .int .i64 4), (22, .bool true), (23, .int .i64 3), (24, .int .i64 4), (25, .pointer (some ⟨b2, 0, none⟩)), (26, .int .i64 3), (27, .bool r58), (28, .bool (!r58)), (32, .int .i64 4)]) (fun _ => [(b2, .cells #[slcV A00 a0.length, .int .u32 a1, .int .i64 r59, .string r60, .int .i64 r61, .int .i64 r62, slcV A73 r63.length, .int .u64 r64, .int .u64 r65, .bool r66, .int .i64 r67, .bool r68, .int .i64 r69, .int .i64 r70, .string r71] 62 (0, 0)), ((b1 + 1), .cells #[.int .i64 0, .int .i64 0, .slice none 0 0] 35 (0, 0)), ((b1 + 2), .cells #[.int .u64 0, .int .u64 0, .bool false, .int .i64 0, .bool false, .int .i64 0, .int .i64 0, .string (⟨#[]⟩ : ByteArray)] 29 (0, 0))]) (fun _ => []) (fun _ => by kernel_rfl) (fun _ => ?_)
            refine WP.round ?_
            refine WP.seq ?_
            refine WP.run [] [6, 7, 8, 9, 11, 12, 20, 21, 22, 23, 24, 25, 26, 27, 28, 32] (fun _ => [(6, .pointer (some ⟨(b1 + 1), 0, none⟩)), (7, .pointer (some ⟨(b1 + 2), 0, none⟩)), (8, .int .i64 0), (9, .pointer (some ⟨b2, 0, none⟩)), (11, .int .i64 3), (12, .int .i64 4), (20, .agg #[.int .i64 1, .int .i64 2, .int .i64 3, .int .i64 4]), (21, .int .i64 4), (22, .bool false), (23, .int .i64 3), (24, .int .i64 4), (25, .pointer (some ⟨b2, 0, none⟩)), (26, .int .i64 3), (27, .bool r58), (28, .bool (!r58)), (32, .int .i64 4)]) (fun _ => [(b2, .cells #[slcV A00 a0.length, .int .u32 a1, .int .i64 r59, .string r60, .int .i64 r61, .int .i64 r62, slcV A73 r63.length, .int .u64 r64, .int .u64 r65, .bool r66, .int .i64 r67, .bool r68, .int .i64 r69, .int .i64 r70, .string r71] 62 (0, 0)), ((b1 + 1), .cells #[.int .i64 0, .int .i64 0, .slice none 0 0] 35 (0, 0)), ((b1 + 2), .cells #[.int .u64 0, .int .u64 0, .bool false, .int .i64 0, .bool false, .int .i64 0, .int .i64 0, .string (⟨#[]⟩ : ByteArray)] 29 (0, 0))]) (fun _ => []) (fun _ => by kernel_rfl) (fun _ => ?_)
            refine WP.seq ?_
            refine WP.no rfl rfl ?_
            refine WP.exit rfl ?_
            exact WP.sub [6, 7, 8, 9] (by kernel_rfl) (WP.pick [1, 2, 0] (by kernel_rfl) (by kernel_rfl) (WP.lessF [0, 4, 5] (by kernel_rfl) (K1 (0, r59, r60, r61, r62, r63, A73, r64, r65, r66, r67, r68, r69, r70, r71) hM)))

end Go.Proofs.YtbodofjnfmjbpaaGreatDoor

namespace Go.Proofs.YtbodofjnfmjbpaaGreatDoor
open Go Eng
set_option linter.unusedVariables false
set_option linter.unusedSimpArgs false

/-! ### gangway/gangwaylaw22.five: function 25 -/
def gangwaylaw22_five.f : Option ((List api_Seg)) :=
  some ([(api_Seg.mk 5 1000 ([7, 8] : List Int))] : List api_Seg)

set_option maxRecDepth 100000 in
theorem gangwaylaw22_five_calls (r : (List api_Seg)) (h : gangwaylaw22_five.f = some r) : Does Tryz.prog 25 #[] [] ([] ++ Glob) (fun x : (SkL (SkL Unit)) => slcV x r.length) (fun x => []) (fun _ => []) (fun x => [Row 3 api_Seg.encS api_Seg.inK x r] ++ ([] ++ Glob)) := by
  intro w Z hS
  refine calls_of (args := []) (L := []) (N := 4) (S := Sat w Z [] [] ([] ++ Glob)) Tryz.func25 rfl rfl (Nat.le_of_ble_eq_true rfl) rfl hS ?_
  have hM := h
  clear h hS
  unfold gangwaylaw22_five.f at hM
  refine WP.seq ?_
  refine WP.run [] [0] (fun _ => [(0, .slice none 0 0)]) (fun _ => []) (fun _ => []) (fun _ => by kernel_rfl) (fun _ => ?_)
  refine WP.seq ?_
  refine WP.run [] [0] (fun b1 => [(0, .slice (some ⟨(b1 + 1), 0, none⟩) 1 1)]) (fun b1 => [(b1, .cells #[.int .u32 7, .int .u32 8] 22 (0, 0)), ((b1 + 1), .cells #[.int .i64 5, .int .i64 1000, .slice (some ⟨b1, 0, none⟩) 2 2] 35 (0, 0))]) (fun b1 => []) (fun b1 => by kernel_rfl) (fun b1 => ?_)
  refine WP.ice (H' := [((b1 + 1), .cells #[.int .i64 5, .int .i64 1000, slcV (SkL.at b1 2 (fun _ => ())) ([7, 8] : List Int).length] 35 (0, 0))]) (Row 1 (pl (encI .u32)) noK (SkL.at b1 2 (fun _ => ())) ([7, 8] : List Int)) 0 (b := b1) (ob := .cells #[.int .u32 7, .int .u32 8] 22 (0, 0)) (by kernel_rfl) [] [] (by kernel_rfl) (fun w hb hψ => row_of_block hb (fun _ _ => rfl) ⟨[], by kernel_rfl⟩ (Nat.le_of_ble_eq_true rfl) (InK.no _ _)) (by kernel_rfl) ?_
  refine WP.ice (H' := []) (Row 3 api_Seg.encS api_Seg.inK (SkL.at (b1 + 1) 1 (skF [(SkL.at b1 2 (fun _ => ()))] (SkL.nil (fun _ => ())))) ([(api_Seg.mk 5 1000 ([7, 8] : List Int))] : List api_Seg)) 0 (b := (b1 + 1)) (ob := .cells #[.int .i64 5, .int .i64 1000, slcV (SkL.at b1 2 (fun _ => ())) ([7, 8] : List Int).length] 35 (0, 0)) (by kernel_rfl) [0] [Row 1 (pl (encI .u32)) noK (SkL.at b1 2 (fun _ => ())) ([7, 8] : List Int)] (by kernel_rfl) (fun w hb hψ => row_of_block hb (fun _ _ => rfl) ⟨[], by kernel_rfl⟩ (Nat.le_of_ble_eq_true rfl) (And.intro (hψ _ (List.mem_of_getElem? (i := 0) rfl)) trivial)) (by kernel_rfl) ?_
  obtain rfl := Option.some.inj hM
  exact WP.ret [] [] (slcV (SkL.at (b1 + 1) 1 (skF [(SkL.at b1 2 (fun _ => ()))] (SkL.nil (fun _ => ())))) ([(api_Seg.mk 5 1000 ([7, 8] : List Int))] : List api_Seg).length) (by kernel_rfl) (fun w' hw => ⟨(SkL.at (b1 + 1) 1 (skF [(SkL.at b1 2 (fun _ => ()))] (SkL.nil (fun _ => ())))), rfl, (hw.pick [] (by kernel_rfl)).less (sub_ret [0] [] (by kernel_rfl) (by kernel_rfl))⟩)

end Go.Proofs.YtbodofjnfmjbpaaGreatDoor

namespace Go.Proofs.YtbodofjnfmjbpaaGreatDoor
open Go Eng
set_option linter.unusedVariables false
set_option linter.unusedSimpArgs false

/-! ### gangway/station.not: function 54 -/
def station_not.f (a0 : ByteArray) (a1 : Int) : Option ((ByteArray × station_why)) :=
  some (a0, (station_why.mk a1))

set_option maxRecDepth 100000 in
theorem station_not_calls (a0 : ByteArray) (a1 : Int) (r : (ByteArray × station_why)) (h : station_not.f a0 a1 = some r) : Pure Tryz.prog Glob 54 #[.string a0, .int .i64 a1] (.iface 138 (.agg #[.string r.1, .iface 80 (.agg #[.int .i64 r.2.n])])) := by
  intro w Z hS
  refine calls_of (args := [.string a0, .int .i64 a1]) (L := [(0, .string a0), (1, .int .i64 a1)]) (N := 11) (S := Sat w Z [] [] Glob) Tryz.func54 rfl rfl (Nat.le_of_ble_eq_true rfl) rfl hS ?_
  have hM := h
  clear h hS
  unfold station_not.f at hM
  refine WP.seq ?_
  refine WP.run [] [0, 1, 4] (fun _ => [(0, .string a0), (1, .int .i64 a1), (4, .nilIface)]) (fun _ => []) (fun _ => []) (fun _ => by kernel_rfl) (fun _ => ?_)
  refine WP.seq ?_
  refine WP.run [] [4] (fun _ => [(4, .iface 138 (.agg #[.string a0, .iface 80 (.agg #[.int .i64 a1])]))]) (fun _ => []) (fun _ => []) (fun _ => by kernel_rfl) (fun _ => ?_)
  obtain rfl := Option.some.inj hM
  exact WP.ret [] [] (.iface 138 (.agg #[.string a0, .iface 80 (.agg #[.int .i64 a1])])) (by kernel_rfl) (fun w' hw => ⟨rfl, hw.pick [] rfl⟩)

end Go.Proofs.YtbodofjnfmjbpaaGreatDoor

namespace Go.Proofs.YtbodofjnfmjbpaaGreatDoor
open Go Eng
set_option linter.unusedVariables false
set_option linter.unusedSimpArgs false

/-! ### gangway/addrs.Group: function 85 -/
def addrs_Group.f (a0 : Int) : Option (Bool) :=
  some ((bAnd .u64 a0 1099511627776) != 0)

set_option maxRecDepth 100000 in
theorem addrs_Group_calls (a0 : Int) (r : Bool) (h : addrs_Group.f a0 = some r) : Pure Tryz.prog Glob 85 #[.int .u64 a0] (.bool r) := by
  intro w Z hS
  refine calls_of (args := [.int .u64 a0]) (L := [(0, .int .u64 a0)]) (N := 6) (S := Sat w Z [] [] Glob) Tryz.func85 rfl rfl (Nat.le_of_ble_eq_true rfl) rfl hS ?_
  have hM := h
  clear h hS
  unfold addrs_Group.f at hM
  refine WP.seq ?_
  refine WP.run [] [0, 2] (fun _ => [(0, .int .u64 a0), (2, .bool false)]) (fun _ => []) (fun _ => []) (fun _ => by kernel_rfl) (fun _ => ?_)
  refine WP.seq ?_
  refine WP.run [] [2] (fun _ => [(2, .bool ((bAnd .u64 a0 1099511627776) != 0))]) (fun _ => []) (fun _ => []) (fun _ => by kernel_rfl) (fun _ => ?_)
  obtain rfl := Option.some.inj hM
  exact WP.ret [] [] (.bool ((bAnd .u64 a0 1099511627776) != 0)) (by kernel_rfl) (fun w' hw => ⟨rfl, hw.pick [] rfl⟩)

end Go.Proofs.YtbodofjnfmjbpaaGreatDoor

namespace Go.Proofs.YtbodofjnfmjbpaaGreatDoor
open Go Eng
set_option linter.unusedVariables false
set_option linter.unusedSimpArgs false

/-! ### gangway/addrs.Own: function 55 -/
def addrs_Own.k1 (x4 : Bool) : Option (Bool) :=
  some x4

def addrs_Own.f (a0 : Int) : Option (Bool) :=
  bif ((a0 != 0) && (decide (a0 < 281474976710656))) then
    (addrs_Group.f a0).bind fun r2 =>
    addrs_Own.k1 (!r2)
  else
    addrs_Own.k1 false

set_option maxRecDepth 100000 in
theorem addrs_Own_calls (a0 : Int) (r : Bool) (h : addrs_Own.f a0 = some r) : Pure Tryz.prog Glob 55 #[.int .u64 a0] (.bool r) := by
  intro w Z hS
  refine calls_of (args := [.int .u64 a0]) (L := [(0, .int .u64 a0)]) (N := 14) (S := Sat w Z [] [] Glob) Tryz.func55 rfl rfl (Nat.le_of_ble_eq_true rfl) rfl hS ?_
  have hM := h
  clear h hS
  unfold addrs_Own.f at hM
  refine WP.seq ?_
  refine WP.run [] [0, 2] (fun _ => [(0, .int .u64 a0), (2, .bool false)]) (fun _ => []) (fun _ => []) (fun _ => by kernel_rfl) (fun _ => ?_)
  refine WP.seq ?_
  refine WP.region ?_
  refine WL.run 3 [] [0, 2, 5] (fun _ => [(0, .int .u64 a0), (2, .bool false), (5, .bool (a0 != 0))]) (fun _ => []) (fun _ => []) (fun _ => by kernel_rfl) (fun _ => ?_)
  refine WL.sub [0, 2, 5] (L' := [(0, .int .u64 a0), (2, .bool false), (5, .bool (a0 != 0))]) (by kernel_rfl) ?_
  refine WL.both (fun b' => [(0, .int .u64 a0), (2, .bool false), (5, .bool b')]) (a0 != 0) 3 [] [] [0, 2, 8] (fun b' => [(0, .int .u64 a0), (2, .bool false), (8, .bool (b' && (decide (a0 < 281474976710656))))]) [] [] (fun _ => by kernel_rfl) (fun _ => by kernel_rfl) ?_
  refine WL.run 1 [] [0, 2, 9] (fun _ => [(0, .int .u64 a0), (2, .bool false), (9, .bool ((a0 != 0) && (decide (a0 < 281474976710656))))]) (fun _ => []) (fun _ => []) (fun _ => by kernel_rfl) (fun _ => ?_)
  refine WL.sub [0, 2, 9] (L' := [(0, .int .u64 a0), (2, .bool false), (9, .bool ((a0 != 0) && (decide (a0 < 281474976710656))))]) (by kernel_rfl) ?_
  refine WL.join (σ := Bool) 4 (fun st => addrs_Own.k1 st = some r) (fun st => [(2, .bool false), (13, .bool st)]) (fun st => Sat w Z [] [] Glob) (fun st hM => ?_) (fun K1 => ?_)
  ·
    obtain ⟨x4, rfl⟩ : ∃ y, y = st := ⟨st, rfl⟩
    replace hM : addrs_Own.k1 x4 = some r := hM
    unfold addrs_Own.k1 at hM
    show WL _ _ _ _ _ [(2, .bool false), (13, .bool x4)] (Sat w Z [] [] Glob)
    refine WL.run 1 [] [2] (fun _ => [(2, .bool x4)]) (fun _ => []) (fun _ => []) (fun _ => by kernel_rfl) (fun _ => ?_)
    refine WP.done ?_
    obtain rfl := Option.some.inj hM
    exact WP.ret [] [] (.bool x4) (by kernel_rfl) (fun w' hw => ⟨rfl, hw.pick [] rfl⟩)
  ·
    refine WL.split (fun b' => [(0, .int .u64 a0), (2, .bool false), (9, .bool b')]) ((a0 != 0) && (decide (a0 < 281474976710656))) (fun c1 => ?_) (fun c1 => ?_)
    · replace hM := cond_t hM c1
      refine WL.run 1 [] [2, 9, 10] (fun _ => [(2, .bool false), (9, .bool true), (10, .int .u64 a0)]) (fun _ => []) (fun _ => []) (fun _ => by kernel_rfl) (fun _ => ?_)
      obtain ⟨r2, h3, hM⟩ := bind_some hM
      refine WL.callP [] [] (addrs_Group_calls a0 _ h3) (fun _ h => h) (by kernel_rfl) (by kernel_rfl) rfl ?_
      refine WL.run 2 [] [2, 13] (fun _ => [(2, .bool false), (13, .bool (!r2))]) (fun _ => []) (fun _ => []) (fun _ => by kernel_rfl) (fun _ => ?_)
      exact WL.sub [2, 13] (by kernel_rfl) (WL.pick [] (by kernel_rfl) (by kernel_rfl) (K1 (!r2) hM))
    · replace hM := cond_f hM c1
      refine WL.run 4 [] [2, 13] (fun _ => [(2, .bool false), (13, .bool false)]) (fun _ => []) (fun _ => []) (fun _ => by kernel_rfl) (fun _ => ?_)
      exact WL.sub [2, 13] (by kernel_rfl) (WL.pick [] (by kernel_rfl) (by kernel_rfl) (K1 false hM))

end Go.Proofs.YtbodofjnfmjbpaaGreatDoor

namespace Go.Proofs.YtbodofjnfmjbpaaGreatDoor
open Go Eng
set_option linter.unusedVariables false
set_option linter.unusedSimpArgs false

/-! ### gangway/station.framed: function 31 -/
def station_framed.k1 (x10 : Bool) : Option (Un2) :=
  bif x10 then
    (station_not.f (⟨#[102, 114, 97, 109, 101]⟩ : ByteArray) 3).bind fun r12 =>
    some (some (r12.1, r12.2))
  else
    some none

def station_framed.k2 (a1 : api_Frame) (x8 : Bool) : Option (Un2) :=
  bif x8 then
    station_framed.k1 true
  else
    station_framed.k1 ((a1.Type_ != 2048) && (a1.Type_ != 2054))

def station_framed.f (a0 : Int) (a1 : api_Frame) : Option (Un2) :=
  bif ((a1.Dst != a0) && (a1.Dst != 281474976710655)) then
    (station_not.f (⟨#[102, 114, 97, 109, 101]⟩ : ByteArray) 2).bind fun r3 =>
    some (some (r3.1, r3.2))
  else
    bif a1.Tag.Has then
      station_framed.k2 a1 true
    else
      (addrs_Own.f a1.Src).bind fun r6 =>
      station_framed.k2 a1 (!r6)

set_option maxRecDepth 100000 in
theorem station_framed_calls (a0 : Int) (a1 : api_Frame) (r : Un2) (h : station_framed.f a0 a1 = some r) : Pure Tryz.prog Glob 31 #[.int .u64 a0, .agg #[.int .u64 a1.Dst, .int .u64 a1.Src, .bool a1.Tag.Has, .int .i64 a1.Tag.Pri, .bool a1.Tag.Dei, .int .i64 a1.Tag.Vid, .int .i64 a1.Type_, .string a1.Body]] (Un2.v r) := by
  intro w Z hS
  refine calls_of (args := [.int .u64 a0, .agg #[.int .u64 a1.Dst, .int .u64 a1.Src, .bool a1.Tag.Has, .int .i64 a1.Tag.Pri, .bool a1.Tag.Dei, .int .i64 a1.Tag.Vid, .int .i64 a1.Type_, .string a1.Body]]) (L := [(0, .int .u64 a0), (1, .agg #[.int .u64 a1.Dst, .int .u64 a1.Src, .bool a1.Tag.Has, .int .i64 a1.Tag.Pri, .bool a1.Tag.Dei, .int .i64 a1.Tag.Vid, .int .i64 a1.Type_, .string a1.Body])]) (N := 37) (S := Sat w Z [] [] Glob) Tryz.func31 rfl rfl (Nat.le_of_ble_eq_true rfl) rfl hS ?_
  have hM := h
  clear h hS
  unfold station_framed.f at hM
  refine WP.seq ?_
  refine WP.run [] [0, 3, 4] (fun b1 => [(0, .int .u64 a0), (3, .pointer (some ⟨b1, 0, none⟩)), (4, .nilIface)]) (fun b1 => [(b1, .cells #[.int .u64 a1.Dst, .int .u64 a1.Src, .bool a1.Tag.Has, .int .i64 a1.Tag.Pri, .bool a1.Tag.Dei, .int .i64 a1.Tag.Vid, .int .i64 a1.Type_, .string a1.Body] 29 (0, 0))]) (fun b1 => []) (fun b1 => by kernel_rfl) (fun b1 => ?_)
  refine WP.seq ?_
  refine WP.block ?_
  refine WP.seq ?_
  refine WP.region ?_
  refine WL.run 5 [0] [3, 4, 10] (fun _ => [(3, .pointer (some ⟨b1, 0, none⟩)), (4, .nilIface), (10, .bool (a1.Dst != a0))]) (fun _ => [(b1, .cells #[.int .u64 a1.Dst, .int .u64 a1.Src, .bool a1.Tag.Has, .int .i64 a1.Tag.Pri, .bool a1.Tag.Dei, .int .i64 a1.Tag.Vid, .int .i64 a1.Type_, .string a1.Body] 29 (0, 0))]) (fun _ => [b1]) (fun _ => by kernel_rfl) (fun _ => ?_)
  refine WL.sub [3, 4, 10] (L' := [(3, .pointer (some ⟨b1, 0, none⟩)), (4, .nilIface), (10, .bool (a1.Dst != a0))]) (by kernel_rfl) ?_
  refine WL.both (fun b' => [(3, .pointer (some ⟨b1, 0, none⟩)), (4, .nilIface), (10, .bool b')]) (a1.Dst != a0) 4 [0] [] [3, 4, 14] (fun b' => [(3, .pointer (some ⟨b1, 0, none⟩)), (4, .nilIface), (14, .bool (b' && (a1.Dst != 281474976710655)))]) [b1] [] (fun _ => by kernel_rfl) (fun _ => by kernel_rfl) ?_
  refine WL.run 1 [] [3, 4, 5] (fun _ => [(3, .pointer (some ⟨b1, 0, none⟩)), (4, .nilIface), (5, .bool ((a1.Dst != a0) && (a1.Dst != 281474976710655)))]) (fun _ => [(b1, .cells #[.int .u64 a1.Dst, .int .u64 a1.Src, .bool a1.Tag.Has, .int .i64 a1.Tag.Pri, .bool a1.Tag.Dei, .int .i64 a1.Tag.Vid, .int .i64 a1.Type_, .string a1.Body] 29 (0, 0))]) (fun _ => []) (fun _ => by kernel_rfl) (fun _ => ?_)
  refine WP.done ?_
  refine WP.cond ((a1.Dst != a0) && (a1.Dst != 281474976710655)) rfl rfl (fun c2 => ?_) (fun c2 => ?_)
  · replace hM := cond_t hM c2
    refine WP.seq ?_
    refine WP.region ?_
    obtain ⟨r3, h4, hM⟩ := bind_some hM
    refine WL.callP [] [] (station_not_calls (⟨#[102, 114, 97, 109, 101]⟩ : ByteArray) 2 _ h4) (fun _ h => h) (by kernel_rfl) (by kernel_rfl) rfl ?_
    refine WL.run 1 [] [4] (fun _ => [(4, .iface 138 (.agg #[.string r3.1, .iface 80 (.agg #[.int .i64 r3.2.n])]))]) (fun _ => [(b1, .cells #[.int .u64 a1.Dst, .int .u64 a1.Src, .bool a1.Tag.Has, .int .i64 a1.Tag.Pri, .bool a1.Tag.Dei, .int .i64 a1.Tag.Vid, .int .i64 a1.Type_, .string a1.Body] 29 (0, 0))]) (fun _ => []) (fun _ => by kernel_rfl) (fun _ => ?_)
    refine WP.done ?_
    refine WP.keep [false] (by kernel_rfl : _ = []) ?_
    obtain rfl := Option.some.inj hM
    exact WP.ret [] [] (.iface 138 (.agg #[.string r3.1, .iface 80 (.agg #[.int .i64 r3.2.n])])) (by kernel_rfl) (fun w' hw => ⟨rfl, hw.pick [] rfl⟩)
  · replace hM := cond_f hM c2
    refine WP.seq ?_
    refine WP.region ?_
    refine WL.run 4 [0] [3, 4, 20] (fun _ => [(3, .pointer (some ⟨b1, 0, none⟩)), (4, .nilIface), (20, .bool a1.Tag.Has)]) (fun _ => [(b1, .cells #[.int .u64 a1.Dst, .int .u64 a1.Src, .bool a1.Tag.Has, .int .i64 a1.Tag.Pri, .bool a1.Tag.Dei, .int .i64 a1.Tag.Vid, .int .i64 a1.Type_, .string a1.Body] 29 (0, 0))]) (fun _ => [b1]) (fun _ => by kernel_rfl) (fun _ => ?_)
    refine WL.sub [3, 4, 20] (L' := [(3, .pointer (some ⟨b1, 0, none⟩)), (4, .nilIface), (20, .bool a1.Tag.Has)]) (by kernel_rfl) ?_
    refine WL.join (σ := Bool) 5 (fun st => station_framed.k2 a1 st = some r) (fun st => [(3, .pointer (some ⟨b1, 0, none⟩)), (4, .nilIface), (25, .bool st)]) (fun st => Sat w Z [(b1, .cells #[.int .u64 a1.Dst, .int .u64 a1.Src, .bool a1.Tag.Has, .int .i64 a1.Tag.Pri, .bool a1.Tag.Dei, .int .i64 a1.Tag.Vid, .int .i64 a1.Type_, .string a1.Body] 29 (0, 0))] [] Glob) (fun st hM => ?_) (fun K2 => ?_)
    ·
      obtain ⟨x8, rfl⟩ : ∃ y, y = st := ⟨st, rfl⟩
      replace hM : station_framed.k2 a1 x8 = some r := hM
      unfold station_framed.k2 at hM
      show WL _ _ _ _ _ [(3, .pointer (some ⟨b1, 0, none⟩)), (4, .nilIface), (25, .bool x8)] (Sat w Z [(b1, .cells #[.int .u64 a1.Dst, .int .u64 a1.Src, .bool a1.Tag.Has, .int .i64 a1.Tag.Pri, .bool a1.Tag.Dei, .int .i64 a1.Tag.Vid, .int .i64 a1.Type_, .string a1.Body] 29 (0, 0))] [] Glob)
      refine WL.run 1 [] [3, 4, 26] (fun _ => [(3, .pointer (some ⟨b1, 0, none⟩)), (4, .nilIface), (26, .bool x8)]) (fun _ => [(b1, .cells #[.int .u64 a1.Dst, .int .u64 a1.Src, .bool a1.Tag.Has, .int .i64 a1.Tag.Pri, .bool a1.Tag.Dei, .int .i64 a1.Tag.Vid, .int .i64 a1.Type_, .string a1.Body] 29 (0, 0))]) (fun _ => []) (fun _ => by kernel_rfl) (fun _ => ?_)
      refine WL.sub [3, 4, 26] (L' := [(3, .pointer (some ⟨b1, 0, none⟩)), (4, .nilIface), (26, .bool x8)]) (by kernel_rfl) ?_
      refine WL.join (σ := Bool) 9 (fun st => station_framed.k1 st = some r) (fun st => [(4, .nilIface), (35, .bool st)]) (fun st => Sat w Z [] [] Glob) (fun st hM => ?_) (fun K1 => ?_)
      ·
        obtain ⟨x10, rfl⟩ : ∃ y, y = st := ⟨st, rfl⟩
        replace hM : station_framed.k1 x10 = some r := hM
        unfold station_framed.k1 at hM
        show WL _ _ _ _ _ [(4, .nilIface), (35, .bool x10)] (Sat w Z [] [] Glob)
        refine WL.run 1 [] [4, 16] (fun _ => [(4, .nilIface), (16, .bool x10)]) (fun _ => []) (fun _ => []) (fun _ => by kernel_rfl) (fun _ => ?_)
        refine WP.done ?_
        refine WP.cond x10 rfl rfl (fun c11 => ?_) (fun c11 => ?_)
        · replace hM := cond_t hM c11
          refine WP.seq ?_
          refine WP.region ?_
          obtain ⟨r12, h13, hM⟩ := bind_some hM
          refine WL.callP [] [] (station_not_calls (⟨#[102, 114, 97, 109, 101]⟩ : ByteArray) 3 _ h13) (fun _ h => h) (by kernel_rfl) (by kernel_rfl) rfl ?_
          refine WL.run 1 [] [4] (fun _ => [(4, .iface 138 (.agg #[.string r12.1, .iface 80 (.agg #[.int .i64 r12.2.n])]))]) (fun _ => []) (fun _ => []) (fun _ => by kernel_rfl) (fun _ => ?_)
          refine WP.done ?_
          obtain rfl := Option.some.inj hM
          exact WP.ret [] [] (.iface 138 (.agg #[.string r12.1, .iface 80 (.agg #[.int .i64 r12.2.n])])) (by kernel_rfl) (fun w' hw => ⟨rfl, hw.pick [] rfl⟩)
        · replace hM := cond_f hM c11
          refine WP.skip ?_
          refine WP.leave ?_
          refine WP.seq ?_
          refine WP.run [] [4] (fun _ => [(4, .nilIface)]) (fun _ => []) (fun _ => []) (fun _ => by kernel_rfl) (fun _ => ?_)
          obtain rfl := Option.some.inj hM
          exact WP.ret [] [] (.nilIface) (by kernel_rfl) (fun w' hw => ⟨rfl, hw.pick [] rfl⟩)
      ·
        refine WL.split (fun b' => [(3, .pointer (some ⟨b1, 0, none⟩)), (4, .nilIface), (26, .bool b')]) x8 (fun c9 => ?_) (fun c9 => ?_)
        · replace hM := cond_t hM c9
          refine WL.run 9 [] [4, 35] (fun _ => [(4, .nilIface), (35, .bool true)]) (fun _ => [(b1, .cells #[.int .u64 a1.Dst, .int .u64 a1.Src, .bool a1.Tag.Has, .int .i64 a1.Tag.Pri, .bool a1.Tag.Dei, .int .i64 a1.Tag.Vid, .int .i64 a1.Type_, .string a1.Body] 29 (0, 0))]) (fun _ => []) (fun _ => by kernel_rfl) (fun _ => ?_)
          exact WL.sub [4, 35] (by kernel_rfl) (WL.pick [] (by kernel_rfl) (by kernel_rfl) (K1 true hM))
        · replace hM := cond_f hM c9
          refine WL.run 4 [0] [3, 4, 26, 30] (fun _ => [(3, .pointer (some ⟨b1, 0, none⟩)), (4, .nilIface), (26, .bool false), (30, .bool (a1.Type_ != 2048))]) (fun _ => [(b1, .cells #[.int .u64 a1.Dst, .int .u64 a1.Src, .bool a1.Tag.Has, .int .i64 a1.Tag.Pri, .bool a1.Tag.Dei, .int .i64 a1.Tag.Vid, .int .i64 a1.Type_, .string a1.Body] 29 (0, 0))]) (fun _ => [b1]) (fun _ => by kernel_rfl) (fun _ => ?_)
          refine WL.sub [3, 4, 26, 30] (L' := [(3, .pointer (some ⟨b1, 0, none⟩)), (4, .nilIface), (26, .bool false), (30, .bool (a1.Type_ != 2048))]) (by kernel_rfl) ?_
          refine WL.both (fun b' => [(3, .pointer (some ⟨b1, 0, none⟩)), (4, .nilIface), (26, .bool false), (30, .bool b')]) (a1.Type_ != 2048) 4 [0] [] [4, 26, 34] (fun b' => [(4, .nilIface), (26, .bool false), (34, .bool (b' && (a1.Type_ != 2054)))]) [b1] [] (fun _ => by kernel_rfl) (fun _ => by kernel_rfl) ?_
          refine WL.run 1 [] [4, 35] (fun _ => [(4, .nilIface), (35, .bool ((a1.Type_ != 2048) && (a1.Type_ != 2054)))]) (fun _ => [(b1, .cells #[.int .u64 a1.Dst, .int .u64 a1.Src, .bool a1.Tag.Has, .int .i64 a1.Tag.Pri, .bool a1.Tag.Dei, .int .i64 a1.Tag.Vid, .int .i64 a1.Type_, .string a1.Body] 29 (0, 0))]) (fun _ => []) (fun _ => by kernel_rfl) (fun _ => ?_)
          exact WL.sub [4, 35] (by kernel_rfl) (WL.pick [] (by kernel_rfl) (by kernel_rfl) (K1 ((a1.Type_ != 2048) && (a1.Type_ != 2054)) hM))
    ·
      refine WL.split (fun b' => [(3, .pointer (some ⟨b1, 0, none⟩)), (4, .nilIface), (20, .bool b')]) a1.Tag.Has (fun c5 => ?_) (fun c5 => ?_)
      · replace hM := cond_t hM c5
        refine WL.run 5 [] [3, 4, 25] (fun _ => [(3, .pointer (some ⟨b1, 0, none⟩)), (4, .nilIface), (25, .bool true)]) (fun _ => [(b1, .cells #[.int .u64 a1.Dst, .int .u64 a1.Src, .bool a1.Tag.Has, .int .i64 a1.Tag.Pri, .bool a1.Tag.Dei, .int .i64 a1.Tag.Vid, .int .i64 a1.Type_, .string a1.Body] 29 (0, 0))]) (fun _ => []) (fun _ => by kernel_rfl) (fun _ => ?_)
        exact WL.sub [3, 4, 25] (by kernel_rfl) (WL.pick [0] (by kernel_rfl) (by kernel_rfl) (K2 true hM))
      · replace hM := cond_f hM c5
        refine WL.run 2 [0] [3, 4, 20, 22] (fun _ => [(3, .pointer (some ⟨b1, 0, none⟩)), (4, .nilIface), (20, .bool false), (22, .int .u64 a1.Src)]) (fun _ => [(b1, .cells #[.int .u64 a1.Dst, .int .u64 a1.Src, .bool a1.Tag.Has, .int .i64 a1.Tag.Pri, .bool a1.Tag.Dei, .int .i64 a1.Tag.Vid, .int .i64 a1.Type_, .string a1.Body] 29 (0, 0))]) (fun _ => [b1]) (fun _ => by kernel_rfl) (fun _ => ?_)
        obtain ⟨r6, h7, hM⟩ := bind_some hM
        refine WL.callP [] [] (addrs_Own_calls a1.Src _ h7) (fun _ h => h) (by kernel_rfl) (by kernel_rfl) rfl ?_
        refine WL.run 2 [] [3, 4, 25] (fun _ => [(3, .pointer (some ⟨b1, 0, none⟩)), (4, .nilIface), (25, .bool (!r6))]) (fun _ => [(b1, .cells #[.int .u64 a1.Dst, .int .u64 a1.Src, .bool a1.Tag.Has, .int .i64 a1.Tag.Pri, .bool a1.Tag.Dei, .int .i64 a1.Tag.Vid, .int .i64 a1.Type_, .string a1.Body] 29 (0, 0))]) (fun _ => []) (fun _ => by kernel_rfl) (fun _ => ?_)
        exact WL.sub [3, 4, 25] (by kernel_rfl) (WL.pick [0] (by kernel_rfl) (by kernel_rfl) (K2 (!r6) hM))

end Go.Proofs.YtbodofjnfmjbpaaGreatDoor

namespace Go.Proofs.YtbodofjnfmjbpaaGreatDoor
open Go Eng
set_option linter.unusedVariables false
set_option linter.unusedSimpArgs false

/-! ### gangway/arp.Parse$1: function 86 -/
def arp_Parse_1.f (k : Nat) (a0 : Int) (a1 : ByteArray) (a2 : Int) : Option (Int × Int) :=
  (octets_Get.f k a1 a2 a0).bind fun (r1, r2) =>
  some (r1, i64 (a2 + a0))

set_option maxRecDepth 100000 in
theorem arp_Parse_1_calls (k : Nat) (b_0 : Nat) (b_1 : Nat) (a0 : Int) (a1 : ByteArray) (a2 : Int) (r : Int × Int) (h : arp_Parse_1.f k a0 a1 a2 = some r) : Does Tryz.prog 86 #[.int .i64 a0, .pointer (some ⟨b_0, 0, none⟩), .pointer (some ⟨b_1, 0, none⟩)] [(b_0, .cells #[.string a1] 9 (0, 0)), (b_1, .cells #[.int .i64 a2] 3 (0, 0))] Glob (fun _ : Unit => .int .u64 r.1) (fun _ => [(b_0, .cells #[.string a1] 9 (0, 0)), (b_1, .cells #[.int .i64 r.2] 3 (0, 0))]) (fun _ => []) (fun _ => Glob) := by
  intro w Z hS
  refine calls_of (args := [.int .i64 a0, .pointer (some ⟨b_0, 0, none⟩), .pointer (some ⟨b_1, 0, none⟩)]) (L := [(0, .int .i64 a0), (1, .pointer (some ⟨b_0, 0, none⟩)), (2, .pointer (some ⟨b_1, 0, none⟩))]) (N := 18) (S := Sat w Z [(b_0, .cells #[.string a1] 9 (0, 0)), (b_1, .cells #[.int .i64 a2] 3 (0, 0))] [] Glob) Tryz.func86 rfl rfl (Nat.le_of_ble_eq_true rfl) rfl hS ?_
  have hM := h
  clear h hS
  unfold arp_Parse_1.f at hM
  refine WP.seq ?_
  refine WP.run [] [0, 1, 2, 4] (fun _ => [(0, .int .i64 a0), (1, .pointer (some ⟨b_0, 0, none⟩)), (2, .pointer (some ⟨b_1, 0, none⟩)), (4, .int .u64 0)]) (fun _ => [(b_0, .cells #[.string a1] 9 (0, 0)), (b_1, .cells #[.int .i64 a2] 3 (0, 0))]) (fun _ => []) (fun _ => by kernel_rfl) (fun _ => ?_)
  refine WP.seq ?_
  refine WP.region ?_
  refine WL.run 3 [0, 1] [0, 2, 4, 8, 9, 10] (fun _ => [(0, .int .i64 a0), (2, .pointer (some ⟨b_1, 0, none⟩)), (4, .int .u64 0), (8, .string a1), (9, .int .i64 a2), (10, .int .i64 a0)]) (fun _ => [(b_0, .cells #[.string a1] 9 (0, 0)), (b_1, .cells #[.int .i64 a2] 3 (0, 0))]) (fun _ => [b_1, b_0]) (fun _ => by kernel_rfl) (fun _ => ?_)
  obtain ⟨⟨r1, r2⟩, h3, hM⟩ := bind_some hM
  dsimp only at hM
  refine WL.callP [] [] (octets_Get_calls k a1 a2 a0 _ h3) (fun _ h => h) (by kernel_rfl) (by kernel_rfl) rfl ?_
  refine WL.run 5 [] [0, 2, 4, 5] (fun _ => [(0, .int .i64 a0), (2, .pointer (some ⟨b_1, 0, none⟩)), (4, .int .u64 0), (5, .int .u64 r1)]) (fun _ => [(b_0, .cells #[.string a1] 9 (0, 0)), (b_1, .cells #[.int .i64 a2] 3 (0, 0))]) (fun _ => []) (fun _ => by kernel_rfl) (fun _ => ?_)
  refine WP.done ?_
  refine WP.seq ?_
  refine WP.run [1, 1] [4, 5] (fun _ => [(4, .int .u64 0), (5, .int .u64 r1)]) (fun _ => [(b_0, .cells #[.string a1] 9 (0, 0)), (b_1, .cells #[.int .i64 (i64 (a2 + a0))] 3 (0, 0))]) (fun _ => [b_1, b_1]) (fun _ => by kernel_rfl) (fun _ => ?_)
  refine WP.seq ?_
  refine WP.run [] [4] (fun _ => [(4, .int .u64 r1)]) (fun _ => [(b_0, .cells #[.string a1] 9 (0, 0)), (b_1, .cells #[.int .i64 (i64 (a2 + a0))] 3 (0, 0))]) (fun _ => []) (fun _ => by kernel_rfl) (fun _ => ?_)
  obtain rfl := Option.some.inj hM
  exact WP.ret [] [] (.int .u64 r1) (by kernel_rfl) (fun w' hw => ⟨(), rfl, hw.pick [0, 1] (by kernel_rfl)⟩)

end Go.Proofs.YtbodofjnfmjbpaaGreatDoor

namespace Go.Proofs.YtbodofjnfmjbpaaGreatDoor
open Go Eng
set_option linter.unusedVariables false
set_option linter.unusedSimpArgs false

/-! ### internal/stringslite.HasPrefix: function 110 -/
def stringslite_HasPrefix.k1 (x4 : Bool) : Option (Bool) :=
  some x4

def stringslite_HasPrefix.f (a0 : ByteArray) (a1 : ByteArray) : Option (Bool) :=
  bif decide ((a0.size : Int) ≥ (a1.size : Int)) then
    (sliceS a0 0 (a1.size : Int)).bind fun t2 =>
    stringslite_HasPrefix.k1 (t2.toList == a1.toList)
  else
    stringslite_HasPrefix.k1 false

set_option maxRecDepth 100000 in
theorem stringslite_HasPrefix_calls (a0 : ByteArray) (a1 : ByteArray) (r : Bool) (h : stringslite_HasPrefix.f a0 a1 = some r) : Pure Tryz.prog Glob 110 #[.string a0, .string a1] (.bool r) := by
  intro w Z hS
  refine calls_of (args := [.string a0, .string a1]) (L := [(0, .string a0), (1, .string a1)]) (N := 18) (S := Sat w Z [] [] Glob) Tryz.func110 rfl rfl (Nat.le_of_ble_eq_true rfl) rfl hS ?_
  have hM := h
  clear h hS
  unfold stringslite_HasPrefix.f at hM
  refine WP.seq ?_
  refine WP.run [] [0, 1, 4] (fun _ => [(0, .string a0), (1, .string a1), (4, .bool false)]) (fun _ => []) (fun _ => []) (fun _ => by kernel_rfl) (fun _ => ?_)
  refine WP.seq ?_
  refine WP.region ?_
  refine WL.run 6 [] [0, 1, 4, 10] (fun _ => [(0, .string a0), (1, .string a1), (4, .bool false), (10, .bool (decide ((a0.size : Int) ≥ (a1.size : Int))))]) (fun _ => []) (fun _ => []) (fun _ => by kernel_rfl) (fun _ => ?_)
  refine WL.sub [0, 1, 4, 10] (L' := [(0, .string a0), (1, .string a1), (4, .bool false), (10, .bool (decide ((a0.size : Int) ≥ (a1.size : Int))))]) (by kernel_rfl) ?_
  refine WL.join (σ := Bool) 7 (fun st => stringslite_HasPrefix.k1 st = some r) (fun st => [(4, .bool false), (17, .bool st)]) (fun st => Sat w Z [] [] Glob) (fun st hM => ?_) (fun K1 => ?_)
  ·
    obtain ⟨x4, rfl⟩ : ∃ y, y = st := ⟨st, rfl⟩
    replace hM : stringslite_HasPrefix.k1 x4 = some r := hM
    unfold stringslite_HasPrefix.k1 at hM
    show WL _ _ _ _ _ [(4, .bool false), (17, .bool x4)] (Sat w Z [] [] Glob)
    refine WL.run 1 [] [4] (fun _ => [(4, .bool x4)]) (fun _ => []) (fun _ => []) (fun _ => by kernel_rfl) (fun _ => ?_)
    refine WP.done ?_
    obtain rfl := Option.some.inj hM
    exact WP.ret [] [] (.bool x4) (by kernel_rfl) (fun w' hw => ⟨rfl, hw.pick [] rfl⟩)
  ·
    refine WL.split (fun b' => [(0, .string a0), (1, .string a1), (4, .bool false), (10, .bool b')]) (decide ((a0.size : Int) ≥ (a1.size : Int))) (fun c1 => ?_) (fun c1 => ?_)
    · replace hM := cond_t hM c1
      refine WL.run 3 [] [1, 4, 10, 11, 13] (fun _ => [(1, .string a1), (4, .bool false), (10, .bool true), (11, .string a0), (13, .int .i64 (a1.size : Int))]) (fun _ => []) (fun _ => []) (fun _ => by kernel_rfl) (fun _ => ?_)
      obtain ⟨t2, h3, hM⟩ := bind_some hM
      refine WL.val (fun _ => run_sliceS_hi (s := a0) (kh := .i64) (h := (a1.size : Int)) (by kernel_rfl) (by kernel_rfl) (by kernel_rfl) h3) (by kernel_rfl) (by kernel_rfl) rfl ?_
      refine WL.run 3 [] [4, 17] (fun _ => [(4, .bool false), (17, .bool (t2.toList == a1.toList))]) (fun _ => []) (fun _ => []) (fun _ => by kernel_rfl) (fun _ => ?_)
      exact WL.sub [4, 17] (by kernel_rfl) (WL.pick [] (by kernel_rfl) (by kernel_rfl) (K1 (t2.toList == a1.toList) hM))
    · replace hM := cond_f hM c1
      refine WL.run 7 [] [4, 17] (fun _ => [(4, .bool false), (17, .bool false)]) (fun _ => []) (fun _ => []) (fun _ => by kernel_rfl) (fun _ => ?_)
      exact WL.sub [4, 17] (by kernel_rfl) (WL.pick [] (by kernel_rfl) (by kernel_rfl) (K1 false hM))

end Go.Proofs.YtbodofjnfmjbpaaGreatDoor

namespace Go.Proofs.YtbodofjnfmjbpaaGreatDoor
open Go Eng
set_option linter.unusedVariables false
set_option linter.unusedSimpArgs false

/-! ### strings.HasPrefix: function 87 -/
def strings_HasPrefix.f (a0 : ByteArray) (a1 : ByteArray) : Option (Bool) :=
  (stringslite_HasPrefix.f a0 a1).bind fun r1 =>
  some r1

set_option maxRecDepth 100000 in
theorem strings_HasPrefix_calls (a0 : ByteArray) (a1 : ByteArray) (r : Bool) (h : strings_HasPrefix.f a0 a1 = some r) : Pure Tryz.prog Glob 87 #[.string a0, .string a1] (.bool r) := by
  intro w Z hS
  refine calls_of (args := [.string a0, .string a1]) (L := [(0, .string a0), (1, .string a1)]) (N := 8) (S := Sat w Z [] [] Glob) Tryz.func87 rfl rfl (Nat.le_of_ble_eq_true rfl) rfl hS ?_
  have hM := h
  clear h hS
  unfold strings_HasPrefix.f at hM
  refine WP.seq ?_
  refine WP.run [] [0, 1, 4] (fun _ => [(0, .string a0), (1, .string a1), (4, .bool false)]) (fun _ => []) (fun _ => []) (fun _ => by kernel_rfl) (fun _ => ?_)
  refine WP.seq ?_
  refine WP.region ?_
  refine WL.run 2 [] [4, 5, 6] (fun _ => [(4, .bool false), (5, .string a0), (6, .string a1)]) (fun _ => []) (fun _ => []) (fun _ => by kernel_rfl) (fun _ => ?_)
  obtain ⟨r1, h2, hM⟩ := bind_some hM
  refine WL.callP [] [] (stringslite_HasPrefix_calls a0 a1 _ h2) (fun _ h => h) (by kernel_rfl) (by kernel_rfl) rfl ?_
  refine WL.run 1 [] [4] (fun _ => [(4, .bool r1)]) (fun _ => []) (fun _ => []) (fun _ => by kernel_rfl) (fun _ => ?_)
  refine WP.done ?_
  obtain rfl := Option.some.inj hM
  exact WP.ret [] [] (.bool r1) (by kernel_rfl) (fun w' hw => ⟨rfl, hw.pick [] rfl⟩)

end Go.Proofs.YtbodofjnfmjbpaaGreatDoor

namespace Go.Proofs.YtbodofjnfmjbpaaGreatDoor
open Go Eng
set_option linter.unusedVariables false
set_option linter.unusedSimpArgs false

/-! ### gangway/arp.Check: function 88 -/
def arp_Check.k1 (a0 : api_Arp) (x5 : Bool) : Option (Int) :=
  bif (x5 || (decide (a0.TMac ≥ 281474976710656))) then
    some 51
  else
    some 0

def arp_Check.f (a0 : api_Arp) : Option (Int) :=
  bif ((a0.Op != 1) && (a0.Op != 2)) then
    arp_Check.k1 a0 true
  else
    (addrs_Own.f a0.SMac).bind fun r3 =>
    arp_Check.k1 a0 (!r3)

set_option maxRecDepth 100000 in
theorem arp_Check_calls (a0 : api_Arp) (r : Int) (h : arp_Check.f a0 = some r) : Pure Tryz.prog Glob 88 #[.agg #[.int .i64 a0.Op, .int .u64 a0.SMac, .int .u32 a0.SIp, .int .u64 a0.TMac, .int .u32 a0.TIp]] (.int .i64 r) := by
  intro w Z hS
  refine calls_of (args := [.agg #[.int .i64 a0.Op, .int .u64 a0.SMac, .int .u32 a0.SIp, .int .u64 a0.TMac, .int .u32 a0.TIp]]) (L := [(0, .agg #[.int .i64 a0.Op, .int .u64 a0.SMac, .int .u32 a0.SIp, .int .u64 a0.TMac, .int .u32 a0.TIp])]) (N := 22) (S := Sat w Z [] [] Glob) Tryz.func88 rfl rfl (Nat.le_of_ble_eq_true rfl) rfl hS ?_
  have hM := h
  clear h hS
  unfold arp_Check.f at hM
  refine WP.seq ?_
  refine WP.run [] [1, 2] (fun b1 => [(1, .pointer (some ⟨b1, 0, none⟩)), (2, .int .i64 0)]) (fun b1 => [(b1, .cells #[.int .i64 a0.Op, .int .u64 a0.SMac, .int .u32 a0.SIp, .int .u64 a0.TMac, .int .u32 a0.TIp] 49 (0, 0))]) (fun b1 => []) (fun b1 => by kernel_rfl) (fun b1 => ?_)
  refine WP.seq ?_
  refine WP.seq ?_
  refine WP.region ?_
  refine WL.run 4 [0] [1, 2, 6] (fun _ => [(1, .pointer (some ⟨b1, 0, none⟩)), (2, .int .i64 0), (6, .bool (a0.Op != 1))]) (fun _ => [(b1, .cells #[.int .i64 a0.Op, .int .u64 a0.SMac, .int .u32 a0.SIp, .int .u64 a0.TMac, .int .u32 a0.TIp] 49 (0, 0))]) (fun _ => [b1]) (fun _ => by kernel_rfl) (fun _ => ?_)
  refine WL.sub [1, 2, 6] (L' := [(1, .pointer (some ⟨b1, 0, none⟩)), (2, .int .i64 0), (6, .bool (a0.Op != 1))]) (by kernel_rfl) ?_
  refine WL.both (fun b' => [(1, .pointer (some ⟨b1, 0, none⟩)), (2, .int .i64 0), (6, .bool b')]) (a0.Op != 1) 4 [0] [] [1, 2, 10] (fun b' => [(1, .pointer (some ⟨b1, 0, none⟩)), (2, .int .i64 0), (10, .bool (b' && (a0.Op != 2)))]) [b1] [] (fun _ => by kernel_rfl) (fun _ => by kernel_rfl) ?_
  refine WL.run 1 [] [1, 2, 11] (fun _ => [(1, .pointer (some ⟨b1, 0, none⟩)), (2, .int .i64 0), (11, .bool ((a0.Op != 1) && (a0.Op != 2)))]) (fun _ => [(b1, .cells #[.int .i64 a0.Op, .int .u64 a0.SMac, .int .u32 a0.SIp, .int .u64 a0.TMac, .int .u32 a0.TIp] 49 (0, 0))]) (fun _ => []) (fun _ => by kernel_rfl) (fun _ => ?_)
  refine WL.sub [1, 2, 11] (L' := [(1, .pointer (some ⟨b1, 0, none⟩)), (2, .int .i64 0), (11, .bool ((a0.Op != 1) && (a0.Op != 2)))]) (by kernel_rfl) ?_
  refine WL.join (σ := Bool) 5 (fun st => arp_Check.k1 a0 st = some r) (fun st => [(1, .pointer (some ⟨b1, 0, none⟩)), (2, .int .i64 0), (16, .bool st)]) (fun st => Sat w Z [(b1, .cells #[.int .i64 a0.Op, .int .u64 a0.SMac, .int .u32 a0.SIp, .int .u64 a0.TMac, .int .u32 a0.TIp] 49 (0, 0))] [] Glob) (fun st hM => ?_) (fun K1 => ?_)
  ·
    obtain ⟨x5, rfl⟩ : ∃ y, y = st := ⟨st, rfl⟩
    replace hM : arp_Check.k1 a0 x5 = some r := hM
    unfold arp_Check.k1 at hM
    show WL _ _ _ _ _ [(1, .pointer (some ⟨b1, 0, none⟩)), (2, .int .i64 0), (16, .bool x5)] (Sat w Z [(b1, .cells #[.int .i64 a0.Op, .int .u64 a0.SMac, .int .u32 a0.SIp, .int .u64 a0.TMac, .int .u32 a0.TIp] 49 (0, 0))] [] Glob)
    refine WL.run 1 [] [1, 2, 17] (fun _ => [(1, .pointer (some ⟨b1, 0, none⟩)), (2, .int .i64 0), (17, .bool x5)]) (fun _ => [(b1, .cells #[.int .i64 a0.Op, .int .u64 a0.SMac, .int .u32 a0.SIp, .int .u64 a0.TMac, .int .u32 a0.TIp] 49 (0, 0))]) (fun _ => []) (fun _ => by kernel_rfl) (fun _ => ?_)
    refine WL.sub [1, 2, 17] (L' := [(1, .pointer (some ⟨b1, 0, none⟩)), (2, .int .i64 0), (17, .bool x5)]) (by kernel_rfl) ?_
    refine WL.both (fun b' => [(1, .pointer (some ⟨b1, 0, none⟩)), (2, .int .i64 0), (17, .bool b')]) x5 4 [] [0] [2, 21] (fun b' => [(2, .int .i64 0), (21, .bool (b' || (decide (a0.TMac ≥ 281474976710656))))]) [] [b1] (fun _ => by kernel_rfl) (fun _ => by kernel_rfl) ?_
    refine WP.done ?_
    refine WP.keep [false] (by kernel_rfl : _ = []) ?_
    refine WP.cond (x5 || (decide (a0.TMac ≥ 281474976710656))) rfl rfl (fun c6 => ?_) (fun c6 => ?_)
    · replace hM := cond_t hM c6
      refine WP.seq ?_
      refine WP.run [] [2] (fun _ => [(2, .int .i64 51)]) (fun _ => []) (fun _ => []) (fun _ => by kernel_rfl) (fun _ => ?_)
      obtain rfl := Option.some.inj hM
      exact WP.ret [] [] (.int .i64 51) (by kernel_rfl) (fun w' hw => ⟨rfl, hw.pick [] rfl⟩)
    · replace hM := cond_f hM c6
      refine WP.skip ?_
      refine WP.seq ?_
      refine WP.run [] [2] (fun _ => [(2, .int .i64 0)]) (fun _ => []) (fun _ => []) (fun _ => by kernel_rfl) (fun _ => ?_)
      obtain rfl := Option.some.inj hM
      exact WP.ret [] [] (.int .i64 0) (by kernel_rfl) (fun w' hw => ⟨rfl, hw.pick [] rfl⟩)
  ·
    refine WL.split (fun b' => [(1, .pointer (some ⟨b1, 0, none⟩)), (2, .int .i64 0), (11, .bool b')]) ((a0.Op != 1) && (a0.Op != 2)) (fun c2 => ?_) (fun c2 => ?_)
    · replace hM := cond_t hM c2
      refine WL.run 5 [] [1, 2, 16] (fun _ => [(1, .pointer (some ⟨b1, 0, none⟩)), (2, .int .i64 0), (16, .bool true)]) (fun _ => [(b1, .cells #[.int .i64 a0.Op, .int .u64 a0.SMac, .int .u32 a0.SIp, .int .u64 a0.TMac, .int .u32 a0.TIp] 49 (0, 0))]) (fun _ => []) (fun _ => by kernel_rfl) (fun _ => ?_)
      exact WL.sub [1, 2, 16] (by kernel_rfl) (WL.pick [0] (by kernel_rfl) (by kernel_rfl) (K1 true hM))
    · replace hM := cond_f hM c2
      refine WL.run 2 [0] [1, 2, 11, 13] (fun _ => [(1, .pointer (some ⟨b1, 0, none⟩)), (2, .int .i64 0), (11, .bool false), (13, .int .u64 a0.SMac)]) (fun _ => [(b1, .cells #[.int .i64 a0.Op, .int .u64 a0.SMac, .int .u32 a0.SIp, .int .u64 a0.TMac, .int .u32 a0.TIp] 49 (0, 0))]) (fun _ => [b1]) (fun _ => by kernel_rfl) (fun _ => ?_)
      obtain ⟨r3, h4, hM⟩ := bind_some hM
      refine WL.callP [] [] (addrs_Own_calls a0.SMac _ h4) (fun _ h => h) (by kernel_rfl) (by kernel_rfl) rfl ?_
      refine WL.run 2 [] [1, 2, 16] (fun _ => [(1, .pointer (some ⟨b1, 0, none⟩)), (2, .int .i64 0), (16, .bool (!r3))]) (fun _ => [(b1, .cells #[.int .i64 a0.Op, .int .u64 a0.SMac, .int .u32 a0.SIp, .int .u64 a0.TMac, .int .u32 a0.TIp] 49 (0, 0))]) (fun _ => []) (fun _ => by kernel_rfl) (fun _ => ?_)
      exact WL.sub [1, 2, 16] (by kernel_rfl) (WL.pick [0] (by kernel_rfl) (by kernel_rfl) (K1 (!r3) hM))

end Go.Proofs.YtbodofjnfmjbpaaGreatDoor
