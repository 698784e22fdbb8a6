/- The walks of the functions that the laws reach: each shows that a call returns what its plain model says, wherever the model gives an answer. -/
import Derived.Test.YtbodofjnfmjbpaaGreatDoorF1

namespace Go.Proofs.YtbodofjnfmjbpaaGreatDoor
open Go Eng
set_option linter.unusedVariables false
set_option linter.unusedSimpArgs false

/-! ### (*gangway/ether.reader).get: function 106 -/
def ether_reader_get.f (k : Nat) (a0 : ether_reader) (a1 : Int) (a2 : ByteArray) : Option (Int × Un1 × ether_reader) :=
  (octets_Get.f k a0.s a0.at_ a1).bind fun (r1, r2) =>
  bif (r2 != 0) then
    some (0, some (a2, 40), a0)
  else
    some (r1, none, (ether_reader.mk a0.s (i64 (a0.at_ + a1))))

set_option maxRecDepth 100000 in
theorem ether_reader_get_calls (k : Nat) (b_0 : Nat) (a0 : ether_reader) (a1 : Int) (a2 : ByteArray) (r : Int × Un1 × ether_reader) (h : ether_reader_get.f k a0 a1 a2 = some r) : Does Tryz.prog 106 #[.pointer (some ⟨b_0, 0, none⟩), .int .i64 a1, .string a2] [(b_0, .cells #[.string a0.s, .int .i64 a0.at_] 132 (0, 0))] Glob (fun _ : Unit => .tuple #[.int .u64 r.1, Un1.v r.2.1]) (fun _ => [(b_0, .cells #[.string r.2.2.s, .int .i64 r.2.2.at_] 132 (0, 0))]) (fun _ => []) (fun _ => Glob) := by
  intro w Z hS
  refine calls_of (args := [.pointer (some ⟨b_0, 0, none⟩), .int .i64 a1, .string a2]) (L := [(0, .pointer (some ⟨b_0, 0, none⟩)), (1, .int .i64 a1), (2, .string a2)]) (N := 38) (S := Sat w Z [(b_0, .cells #[.string a0.s, .int .i64 a0.at_] 132 (0, 0))] [] Glob) Tryz.func106 rfl rfl (Nat.le_of_ble_eq_true rfl) rfl hS ?_
  have hM := h
  clear h hS
  unfold ether_reader_get.f at hM
  refine WP.seq ?_
  refine WP.run [] [0, 1, 2, 6, 7] (fun _ => [(0, .pointer (some ⟨b_0, 0, none⟩)), (1, .int .i64 a1), (2, .string a2), (6, .int .u64 0), (7, .nilIface)]) (fun _ => [(b_0, .cells #[.string a0.s, .int .i64 a0.at_] 132 (0, 0))]) (fun _ => []) (fun _ => by kernel_rfl) (fun _ => ?_)
  refine WP.seq ?_
  refine WP.quiet (by kernel_rfl) (by kernel_rfl) ?_
  refine QL.run 9 [0, 0] [0, 1, 2, 6, 7, 14, 18, 19] [b_0, b_0] [(0, .pointer (some ⟨b_0, 0, none⟩)), (1, .int .i64 a1), (2, .string a2), (6, .int .u64 0), (7, .nilIface), (14, .string a0.s), (18, .int .i64 a0.at_), (19, .int .i64 a1)] (by kernel_rfl) ?_
  obtain ⟨⟨r1, r2⟩, h3, hM⟩ := bind_some hM
  dsimp only at hM
  refine QL.callP [] [] (octets_Get_calls k a0.s a0.at_ a1 _ h3) (fun _ h => h) (by kernel_rfl) (by kernel_rfl) rfl ?_
  refine QL.run 5 [] [0, 1, 2, 6, 7, 8, 9] [] [(0, .pointer (some ⟨b_0, 0, none⟩)), (1, .int .i64 a1), (2, .string a2), (6, .int .u64 0), (7, .nilIface), (8, .int .u64 r1), (9, .int .i64 r2)] (by kernel_rfl) ?_
  refine QL.done ?_
  refine WP.seq ?_
  refine WP.seq ?_
  refine WP.run [] [0, 1, 2, 6, 7, 8, 24] (fun _ => [(0, .pointer (some ⟨b_0, 0, none⟩)), (1, .int .i64 a1), (2, .string a2), (6, .int .u64 0), (7, .nilIface), (8, .int .u64 r1), (24, .bool (r2 != 0))]) (fun _ => [(b_0, .cells #[.string a0.s, .int .i64 a0.at_] 132 (0, 0))]) (fun _ => []) (fun _ => by kernel_rfl) (fun _ => ?_)
  refine WP.cond (r2 != 0) rfl rfl (fun c4 => ?_) (fun c4 => ?_)
  · replace hM := cond_t hM c4
    refine WP.seq ?_
    refine WP.run [] [0, 1, 6, 7, 8] (fun _ => [(0, .pointer (some ⟨b_0, 0, none⟩)), (1, .int .i64 a1), (6, .int .u64 0), (7, .iface 183 (.agg #[.string a2, .iface 30 (.int .i64 40)])), (8, .int .u64 r1)]) (fun _ => [(b_0, .cells #[.string a0.s, .int .i64 a0.at_] 132 (0, 0))]) (fun _ => []) (fun _ => by kernel_rfl) (fun _ => ?_)
    obtain rfl := Option.some.inj hM
    exact WP.ret [] [] (.tuple #[.int .u64 0, .iface 183 (.agg #[.string a2, .iface 30 (.int .i64 40)])]) (by kernel_rfl) (fun w' hw => ⟨(), rfl, hw.pick [0] (by kernel_rfl)⟩)
  · replace hM := cond_f hM c4
    refine WP.skip ?_
    refine WP.seq ?_
    refine WP.run [0, 0] [6, 7, 8] (fun _ => [(6, .int .u64 0), (7, .nilIface), (8, .int .u64 r1)]) (fun _ => [(b_0, .cells #[.string a0.s, .int .i64 (i64 (a0.at_ + a1))] 132 (0, 0))]) (fun _ => [b_0, b_0]) (fun _ => by kernel_rfl) (fun _ => ?_)
    refine WP.seq ?_
    refine WP.run [] [6, 7] (fun _ => [(6, .int .u64 r1), (7, .nilIface)]) (fun _ => [(b_0, .cells #[.string a0.s, .int .i64 (i64 (a0.at_ + a1))] 132 (0, 0))]) (fun _ => []) (fun _ => by kernel_rfl) (fun _ => ?_)
    obtain rfl := Option.some.inj hM
    exact WP.ret [] [] (.tuple #[.int .u64 r1, .nilIface]) (by kernel_rfl) (fun w' hw => ⟨(), rfl, hw.pick [0] (by kernel_rfl)⟩)

end Go.Proofs.YtbodofjnfmjbpaaGreatDoor

namespace Go.Proofs.YtbodofjnfmjbpaaGreatDoor
open Go Eng
set_option linter.unusedVariables false
set_option linter.unusedSimpArgs false

/-! ### (*gangway/ether.reader).tagged: function 107 -/
def ether_reader_tagged.f (k : Nat) (a0 : ether_reader) (a1 : api_Frame) : Option (Int × Un1 × ether_reader × api_Frame) :=
  (ether_reader_get.f k a0 2 (⟨#[116, 97, 103]⟩ : ByteArray)).bind fun (r1, r2, r3) =>
  match r2 with
  | none =>
    (ether_reader_get.f k r3 2 (⟨#[116, 121, 112, 101]⟩ : ByteArray)).bind fun (r7, r8, r9) =>
    match r8 with
    | none =>
      some (i64 r7, none, r9, (api_Frame.mk a1.Dst a1.Src (api_Tag.mk true (Int.fdiv (i64 r1) 8192) ((bAnd .i64 (i64 r1) 4096) != 0) (Int.tmod (i64 r1) 4096)) a1.Type_ a1.Body))
    | some (q11, q12) =>
      some (i64 r7, some (q11, q12), r9, (api_Frame.mk a1.Dst a1.Src (api_Tag.mk true (Int.fdiv (i64 r1) 8192) ((bAnd .i64 (i64 r1) 4096) != 0) (Int.tmod (i64 r1) 4096)) a1.Type_ a1.Body))
  | some (q5, q6) =>
    some (0, some (q5, q6), r3, a1)

set_option maxRecDepth 100000 in
theorem ether_reader_tagged_calls (k : Nat) (b_0 : Nat) (b_1 : Nat) (a0 : ether_reader) (a1 : api_Frame) (r : Int × Un1 × ether_reader × api_Frame) (h : ether_reader_tagged.f k a0 a1 = some r) : Does Tryz.prog 107 #[.pointer (some ⟨b_0, 0, none⟩), .pointer (some ⟨b_1, 0, none⟩)] [(b_0, .cells #[.string a0.s, .int .i64 a0.at_] 132 (0, 0)), (b_1, .cells #[.int .u64 a1.Dst, .int .u64 a1.Src, .bool a1.Tag.Has, .int .i64 a1.Tag.Pri, .bool a1.Tag.Dei, .int .i64 a1.Tag.Vid, .int .i64 a1.Type_, .string a1.Body] 29 (0, 0))] Glob (fun _ : Unit => .tuple #[.int .i64 r.1, Un1.v r.2.1]) (fun _ => [(b_0, .cells #[.string r.2.2.1.s, .int .i64 r.2.2.1.at_] 132 (0, 0)), (b_1, .cells #[.int .u64 r.2.2.2.Dst, .int .u64 r.2.2.2.Src, .bool r.2.2.2.Tag.Has, .int .i64 r.2.2.2.Tag.Pri, .bool r.2.2.2.Tag.Dei, .int .i64 r.2.2.2.Tag.Vid, .int .i64 r.2.2.2.Type_, .string r.2.2.2.Body] 29 (0, 0))]) (fun _ => []) (fun _ => Glob) := by
  intro w Z hS
  refine calls_of (args := [.pointer (some ⟨b_0, 0, none⟩), .pointer (some ⟨b_1, 0, none⟩)]) (L := [(0, .pointer (some ⟨b_0, 0, none⟩)), (1, .pointer (some ⟨b_1, 0, none⟩))]) (N := 39) (S := Sat w Z [(b_0, .cells #[.string a0.s, .int .i64 a0.at_] 132 (0, 0)), (b_1, .cells #[.int .u64 a1.Dst, .int .u64 a1.Src, .bool a1.Tag.Has, .int .i64 a1.Tag.Pri, .bool a1.Tag.Dei, .int .i64 a1.Tag.Vid, .int .i64 a1.Type_, .string a1.Body] 29 (0, 0))] [] Glob) Tryz.func107 rfl rfl (Nat.le_of_ble_eq_true rfl) rfl hS ?_
  have hM := h
  clear h hS
  unfold ether_reader_tagged.f at hM
  refine WP.seq ?_
  refine WP.run [] [0, 1, 4, 5] (fun _ => [(0, .pointer (some ⟨b_0, 0, none⟩)), (1, .pointer (some ⟨b_1, 0, none⟩)), (4, .int .i64 0), (5, .nilIface)]) (fun _ => [(b_0, .cells #[.string a0.s, .int .i64 a0.at_] 132 (0, 0)), (b_1, .cells #[.int .u64 a1.Dst, .int .u64 a1.Src, .bool a1.Tag.Has, .int .i64 a1.Tag.Pri, .bool a1.Tag.Dei, .int .i64 a1.Tag.Vid, .int .i64 a1.Type_, .string a1.Body] 29 (0, 0))]) (fun _ => []) (fun _ => by kernel_rfl) (fun _ => ?_)
  refine WP.seq ?_
  refine WP.region ?_
  refine WL.run 1 [] [0, 1, 4, 5, 11] (fun _ => [(0, .pointer (some ⟨b_0, 0, none⟩)), (1, .pointer (some ⟨b_1, 0, none⟩)), (4, .int .i64 0), (5, .nilIface), (11, .pointer (some ⟨b_0, 0, none⟩))]) (fun _ => [(b_0, .cells #[.string a0.s, .int .i64 a0.at_] 132 (0, 0)), (b_1, .cells #[.int .u64 a1.Dst, .int .u64 a1.Src, .bool a1.Tag.Has, .int .i64 a1.Tag.Pri, .bool a1.Tag.Dei, .int .i64 a1.Tag.Vid, .int .i64 a1.Type_, .string a1.Body] 29 (0, 0))]) (fun _ => []) (fun _ => by kernel_rfl) (fun _ => ?_)
  obtain ⟨⟨r1, r2, r3⟩, h4, hM⟩ := bind_some hM
  dsimp only at hM
  refine WL.callE (X := Unit) [] [] [true, false] (fun _ => _) (ether_reader_get_calls k b_0 a0 2 (⟨#[116, 97, 103]⟩ : ByteArray) _ h4) rfl rfl (fun _ h => h) (by kernel_rfl) (by kernel_rfl) (fun _ => rfl) (fun _ => ?_)
  refine WL.run 5 [] [0, 1, 4, 5, 6, 7] (fun _ => [(0, .pointer (some ⟨b_0, 0, none⟩)), (1, .pointer (some ⟨b_1, 0, none⟩)), (4, .int .i64 0), (5, .nilIface), (6, .int .u64 r1), (7, Un1.v r2)]) (fun _ => [(b_0, .cells #[.string r3.s, .int .i64 r3.at_] 132 (0, 0)), (b_1, .cells #[.int .u64 a1.Dst, .int .u64 a1.Src, .bool a1.Tag.Has, .int .i64 a1.Tag.Pri, .bool a1.Tag.Dei, .int .i64 a1.Tag.Vid, .int .i64 a1.Type_, .string a1.Body] 29 (0, 0))]) (fun _ => []) (fun _ => by kernel_rfl) (fun _ => ?_)
  refine WP.done ?_
  refine WP.seq ?_
  refine WP.seq ?_
  refine WP.region ?_
  refine WL.run 1 [] [0, 1, 4, 5, 6, 7, 15] (fun _ => [(0, .pointer (some ⟨b_0, 0, none⟩)), (1, .pointer (some ⟨b_1, 0, none⟩)), (4, .int .i64 0), (5, .nilIface), (6, .int .u64 r1), (7, Un1.v r2), (15, Un1.v r2)]) (fun _ => [(b_0, .cells #[.string r3.s, .int .i64 r3.at_] 132 (0, 0)), (b_1, .cells #[.int .u64 a1.Dst, .int .u64 a1.Src, .bool a1.Tag.Has, .int .i64 a1.Tag.Pri, .bool a1.Tag.Dei, .int .i64 a1.Tag.Vid, .int .i64 a1.Type_, .string a1.Body] 29 (0, 0))]) (fun _ => []) (fun _ => by kernel_rfl) (fun _ => ?_)
  rcases r2 with _ | ⟨q5, q6⟩
  · dsimp only at hM
    refine WL.run 1 [] [0, 1, 4, 5, 6, 7, 16] (fun _ => [(0, .pointer (some ⟨b_0, 0, none⟩)), (1, .pointer (some ⟨b_1, 0, none⟩)), (4, .int .i64 0), (5, .nilIface), (6, .int .u64 r1), (7, .nilIface), (16, .bool false)]) (fun _ => [(b_0, .cells #[.string r3.s, .int .i64 r3.at_] 132 (0, 0)), (b_1, .cells #[.int .u64 a1.Dst, .int .u64 a1.Src, .bool a1.Tag.Has, .int .i64 a1.Tag.Pri, .bool a1.Tag.Dei, .int .i64 a1.Tag.Vid, .int .i64 a1.Type_, .string a1.Body] 29 (0, 0))]) (fun _ => []) (fun _ => by kernel_rfl) (fun _ => ?_)
    refine WP.done ?_
    refine WP.no rfl rfl ?_
    refine WP.skip ?_
    refine WP.seq ?_
    refine WP.run [] [0, 1, 4, 5, 7, 8] (fun _ => [(0, .pointer (some ⟨b_0, 0, none⟩)), (1, .pointer (some ⟨b_1, 0, none⟩)), (4, .int .i64 0), (5, .nilIface), (7, .nilIface), (8, .int .i64 (i64 r1))]) (fun _ => [(b_0, .cells #[.string r3.s, .int .i64 r3.at_] 132 (0, 0)), (b_1, .cells #[.int .u64 a1.Dst, .int .u64 a1.Src, .bool a1.Tag.Has, .int .i64 a1.Tag.Pri, .bool a1.Tag.Dei, .int .i64 a1.Tag.Vid, .int .i64 a1.Type_, .string a1.Body] 29 (0, 0))]) (fun _ => []) (fun _ => by kernel_rfl) (fun _ => ?_)
    refine WP.seq ?_
    refine WP.run [1, 1, 1, 1] [0, 4, 5, 7] (fun _ => [(0, .pointer (some ⟨b_0, 0, none⟩)), (4, .int .i64 0), (5, .nilIface), (7, .nilIface)]) (fun _ => [(b_0, .cells #[.string r3.s, .int .i64 r3.at_] 132 (0, 0)), (b_1, .cells #[.int .u64 a1.Dst, .int .u64 a1.Src, .bool true, .int .i64 (Int.fdiv (i64 r1) 8192), .bool ((bAnd .i64 (i64 r1) 4096) != 0), .int .i64 (Int.tmod (i64 r1) 4096), .int .i64 a1.Type_, .string a1.Body] 29 (0, 0))]) (fun _ => [b_1, b_1, b_1, b_1]) (fun _ => by kernel_rfl) (fun _ => ?_)
    refine WP.seq ?_
    refine WP.region ?_
    refine WL.run 1 [] [4, 5, 7, 32] (fun _ => [(4, .int .i64 0), (5, .nilIface), (7, .nilIface), (32, .pointer (some ⟨b_0, 0, none⟩))]) (fun _ => [(b_0, .cells #[.string r3.s, .int .i64 r3.at_] 132 (0, 0)), (b_1, .cells #[.int .u64 a1.Dst, .int .u64 a1.Src, .bool true, .int .i64 (Int.fdiv (i64 r1) 8192), .bool ((bAnd .i64 (i64 r1) 4096) != 0), .int .i64 (Int.tmod (i64 r1) 4096), .int .i64 a1.Type_, .string a1.Body] 29 (0, 0))]) (fun _ => []) (fun _ => by kernel_rfl) (fun _ => ?_)
    obtain ⟨⟨r7, r8, r9⟩, h10, hM⟩ := bind_some hM
    dsimp only at hM
    refine WL.callE (X := Unit) [] [] [true, false] (fun _ => _) (ether_reader_get_calls k b_0 r3 2 (⟨#[116, 121, 112, 101]⟩ : ByteArray) _ h10) rfl rfl (fun _ h => h) (by kernel_rfl) (by kernel_rfl) (fun _ => rfl) (fun _ => ?_)
    refine WL.run 5 [] [4, 5, 7, 9] (fun _ => [(4, .int .i64 0), (5, .nilIface), (7, Un1.v r8), (9, .int .u64 r7)]) (fun _ => [(b_0, .cells #[.string r9.s, .int .i64 r9.at_] 132 (0, 0)), (b_1, .cells #[.int .u64 a1.Dst, .int .u64 a1.Src, .bool true, .int .i64 (Int.fdiv (i64 r1) 8192), .bool ((bAnd .i64 (i64 r1) 4096) != 0), .int .i64 (Int.tmod (i64 r1) 4096), .int .i64 a1.Type_, .string a1.Body] 29 (0, 0))]) (fun _ => []) (fun _ => by kernel_rfl) (fun _ => ?_)
    refine WP.done ?_
    refine WP.seq ?_
    refine WP.run [] [4, 5] (fun _ => [(4, .int .i64 (i64 r7)), (5, Un1.v r8)]) (fun _ => [(b_0, .cells #[.string r9.s, .int .i64 r9.at_] 132 (0, 0)), (b_1, .cells #[.int .u64 a1.Dst, .int .u64 a1.Src, .bool true, .int .i64 (Int.fdiv (i64 r1) 8192), .bool ((bAnd .i64 (i64 r1) 4096) != 0), .int .i64 (Int.tmod (i64 r1) 4096), .int .i64 a1.Type_, .string a1.Body] 29 (0, 0))]) (fun _ => []) (fun _ => by kernel_rfl) (fun _ => ?_)
    rcases r8 with _ | ⟨q11, q12⟩
    · dsimp only at hM
      obtain rfl := Option.some.inj hM
      exact WP.ret [] [] (.tuple #[.int .i64 (i64 r7), .nilIface]) (by kernel_rfl) (fun w' hw => ⟨(), rfl, hw.pick [0, 1] (by kernel_rfl)⟩)
    · dsimp only at hM
      obtain rfl := Option.some.inj hM
      exact WP.ret [] [] (.tuple #[.int .i64 (i64 r7), .iface 183 (.agg #[.string q11, .iface 30 (.int .i64 q12)])]) (by kernel_rfl) (fun w' hw => ⟨(), rfl, hw.pick [0, 1] (by kernel_rfl)⟩)
  · dsimp only at hM
    refine WL.run 1 [] [0, 1, 4, 5, 6, 7, 16] (fun _ => [(0, .pointer (some ⟨b_0, 0, none⟩)), (1, .pointer (some ⟨b_1, 0, none⟩)), (4, .int .i64 0), (5, .nilIface), (6, .int .u64 r1), (7, .iface 183 (.agg #[.string q5, .iface 30 (.int .i64 q6)])), (16, .bool true)]) (fun _ => [(b_0, .cells #[.string r3.s, .int .i64 r3.at_] 132 (0, 0)), (b_1, .cells #[.int .u64 a1.Dst, .int .u64 a1.Src, .bool a1.Tag.Has, .int .i64 a1.Tag.Pri, .bool a1.Tag.Dei, .int .i64 a1.Tag.Vid, .int .i64 a1.Type_, .string a1.Body] 29 (0, 0))]) (fun _ => []) (fun _ => by kernel_rfl) (fun _ => ?_)
    refine WP.done ?_
    refine WP.yes rfl rfl ?_
    refine WP.seq ?_
    refine WP.run [] [0, 1, 4, 5, 6, 7] (fun _ => [(0, .pointer (some ⟨b_0, 0, none⟩)), (1, .pointer (some ⟨b_1, 0, none⟩)), (4, .int .i64 0), (5, .iface 183 (.agg #[.string q5, .iface 30 (.int .i64 q6)])), (6, .int .u64 r1), (7, .iface 183 (.agg #[.string q5, .iface 30 (.int .i64 q6)]))]) (fun _ => [(b_0, .cells #[.string r3.s, .int .i64 r3.at_] 132 (0, 0)), (b_1, .cells #[.int .u64 a1.Dst, .int .u64 a1.Src, .bool a1.Tag.Has, .int .i64 a1.Tag.Pri, .bool a1.Tag.Dei, .int .i64 a1.Tag.Vid, .int .i64 a1.Type_, .string a1.Body] 29 (0, 0))]) (fun _ => []) (fun _ => by kernel_rfl) (fun _ => ?_)
    obtain rfl := Option.some.inj hM
    exact WP.ret [] [] (.tuple #[.int .i64 0, .iface 183 (.agg #[.string q5, .iface 30 (.int .i64 q6)])]) (by kernel_rfl) (fun w' hw => ⟨(), rfl, hw.pick [0, 1] (by kernel_rfl)⟩)

end Go.Proofs.YtbodofjnfmjbpaaGreatDoor

namespace Go.Proofs.YtbodofjnfmjbpaaGreatDoor
open Go Eng
set_option linter.unusedVariables false
set_option linter.unusedSimpArgs false

/-! ### (*gangway/ether.reader).body: function 108 -/
def ether_reader_body.k1 (a1 : api_Frame) (a2 : Int) (t1 : ByteArray) (x4 : Bool) : Option (Un1 × api_Frame) :=
  bif x4 then
    some (some ((⟨#[116, 121, 112, 101]⟩ : ByteArray), 41), a1)
  else
    bif decide (a2 > 1500) then
      some (none, (api_Frame.mk a1.Dst a1.Src a1.Tag a2 t1))
    else
      bif decide (a2 > (t1.size : Int)) then
        some (some ((⟨#[98, 111, 100, 121]⟩ : ByteArray), 40), a1)
      else
        (sliceS t1 0 a2).bind fun t8 =>
        some (none, (api_Frame.mk a1.Dst a1.Src a1.Tag a1.Type_ t8))

def ether_reader_body.f (a0 : ether_reader) (a1 : api_Frame) (a2 : Int) : Option (Un1 × api_Frame) :=
  (sliceS a0.s a0.at_ (a0.s.size : Int)).bind fun t1 =>
  bif (a2 == 33024) then
    ether_reader_body.k1 a1 a2 t1 true
  else
    ether_reader_body.k1 a1 a2 t1 ((decide (a2 > 1500)) && (decide (a2 < 1536)))

set_option maxRecDepth 100000 in
theorem ether_reader_body_calls (b_0 : Nat) (b_1 : Nat) (a0 : ether_reader) (a1 : api_Frame) (a2 : Int) (r : Un1 × api_Frame) (h : ether_reader_body.f a0 a1 a2 = some r) : Does Tryz.prog 108 #[.pointer (some ⟨b_0, 0, none⟩), .pointer (some ⟨b_1, 0, none⟩), .int .i64 a2] [(b_0, .cells #[.string a0.s, .int .i64 a0.at_] 132 (0, 0)), (b_1, .cells #[.int .u64 a1.Dst, .int .u64 a1.Src, .bool a1.Tag.Has, .int .i64 a1.Tag.Pri, .bool a1.Tag.Dei, .int .i64 a1.Tag.Vid, .int .i64 a1.Type_, .string a1.Body] 29 (0, 0))] Glob (fun _ : Unit => Un1.v r.1) (fun _ => [(b_0, .cells #[.string a0.s, .int .i64 a0.at_] 132 (0, 0)), (b_1, .cells #[.int .u64 r.2.Dst, .int .u64 r.2.Src, .bool r.2.Tag.Has, .int .i64 r.2.Tag.Pri, .bool r.2.Tag.Dei, .int .i64 r.2.Tag.Vid, .int .i64 r.2.Type_, .string r.2.Body] 29 (0, 0))]) (fun _ => []) (fun _ => Glob) := by
  intro w Z hS
  refine calls_of (args := [.pointer (some ⟨b_0, 0, none⟩), .pointer (some ⟨b_1, 0, none⟩), .int .i64 a2]) (L := [(0, .pointer (some ⟨b_0, 0, none⟩)), (1, .pointer (some ⟨b_1, 0, none⟩)), (2, .int .i64 a2)]) (N := 55) (S := Sat w Z [(b_0, .cells #[.string a0.s, .int .i64 a0.at_] 132 (0, 0)), (b_1, .cells #[.int .u64 a1.Dst, .int .u64 a1.Src, .bool a1.Tag.Has, .int .i64 a1.Tag.Pri, .bool a1.Tag.Dei, .int .i64 a1.Tag.Vid, .int .i64 a1.Type_, .string a1.Body] 29 (0, 0))] [] Glob) Tryz.func108 rfl rfl (Nat.le_of_ble_eq_true rfl) rfl hS ?_
  have hM := h
  clear h hS
  unfold ether_reader_body.f at hM
  refine WP.seq ?_
  refine WP.run [] [0, 1, 2, 6] (fun _ => [(0, .pointer (some ⟨b_0, 0, none⟩)), (1, .pointer (some ⟨b_1, 0, none⟩)), (2, .int .i64 a2), (6, .nilIface)]) (fun _ => [(b_0, .cells #[.string a0.s, .int .i64 a0.at_] 132 (0, 0)), (b_1, .cells #[.int .u64 a1.Dst, .int .u64 a1.Src, .bool a1.Tag.Has, .int .i64 a1.Tag.Pri, .bool a1.Tag.Dei, .int .i64 a1.Tag.Vid, .int .i64 a1.Type_, .string a1.Body] 29 (0, 0))]) (fun _ => []) (fun _ => by kernel_rfl) (fun _ => ?_)
  refine WP.seq ?_
  refine WP.quiet (by kernel_rfl) (by kernel_rfl) ?_
  refine QL.run 8 [0, 0] [1, 2, 6, 11, 15] [b_0, b_0] [(1, .pointer (some ⟨b_1, 0, none⟩)), (2, .int .i64 a2), (6, .nilIface), (11, .string a0.s), (15, .int .i64 a0.at_)] (by kernel_rfl) ?_
  obtain ⟨t1, h2, hM⟩ := bind_some hM
  refine QL.val (fun _ => run_sliceS_lo (s := a0.s) (kl := .i64) (l := a0.at_) (by kernel_rfl) (by kernel_rfl) (by kernel_rfl) h2) (by kernel_rfl) (by kernel_rfl) rfl ?_
  refine QL.run 1 [] [1, 2, 6, 7] [] [(1, .pointer (some ⟨b_1, 0, none⟩)), (2, .int .i64 a2), (6, .nilIface), (7, .string t1)] (by kernel_rfl) ?_
  refine QL.done ?_
  refine WP.seq ?_
  refine WP.block ?_
  refine WP.seq ?_
  refine WP.region ?_
  refine WL.run 3 [] [1, 2, 6, 7, 20] (fun _ => [(1, .pointer (some ⟨b_1, 0, none⟩)), (2, .int .i64 a2), (6, .nilIface), (7, .string t1), (20, .bool (a2 == 33024))]) (fun _ => [(b_0, .cells #[.string a0.s, .int .i64 a0.at_] 132 (0, 0)), (b_1, .cells #[.int .u64 a1.Dst, .int .u64 a1.Src, .bool a1.Tag.Has, .int .i64 a1.Tag.Pri, .bool a1.Tag.Dei, .int .i64 a1.Tag.Vid, .int .i64 a1.Type_, .string a1.Body] 29 (0, 0))]) (fun _ => []) (fun _ => by kernel_rfl) (fun _ => ?_)
  refine WL.sub [1, 2, 6, 7, 20] (L' := [(1, .pointer (some ⟨b_1, 0, none⟩)), (2, .int .i64 a2), (6, .nilIface), (7, .string t1), (20, .bool (a2 == 33024))]) (by kernel_rfl) ?_
  refine WL.join (σ := Bool) 7 (fun st => ether_reader_body.k1 a1 a2 t1 st = some r) (fun st => [(1, .pointer (some ⟨b_1, 0, none⟩)), (2, .int .i64 a2), (6, .nilIface), (7, .string t1), (27, .bool st)]) (fun st => Sat w Z [(b_0, .cells #[.string a0.s, .int .i64 a0.at_] 132 (0, 0)), (b_1, .cells #[.int .u64 a1.Dst, .int .u64 a1.Src, .bool a1.Tag.Has, .int .i64 a1.Tag.Pri, .bool a1.Tag.Dei, .int .i64 a1.Tag.Vid, .int .i64 a1.Type_, .string a1.Body] 29 (0, 0))] [] Glob) (fun st hM => ?_) (fun K1 => ?_)
  ·
    obtain ⟨x4, rfl⟩ : ∃ y, y = st := ⟨st, rfl⟩
    replace hM : ether_reader_body.k1 a1 a2 t1 x4 = some r := hM
    unfold ether_reader_body.k1 at hM
    show WL _ _ _ _ _ [(1, .pointer (some ⟨b_1, 0, none⟩)), (2, .int .i64 a2), (6, .nilIface), (7, .string t1), (27, .bool x4)] (Sat w Z [(b_0, .cells #[.string a0.s, .int .i64 a0.at_] 132 (0, 0)), (b_1, .cells #[.int .u64 a1.Dst, .int .u64 a1.Src, .bool a1.Tag.Has, .int .i64 a1.Tag.Pri, .bool a1.Tag.Dei, .int .i64 a1.Tag.Vid, .int .i64 a1.Type_, .string a1.Body] 29 (0, 0))] [] Glob)
    refine WL.run 1 [] [1, 2, 6, 7, 17] (fun _ => [(1, .pointer (some ⟨b_1, 0, none⟩)), (2, .int .i64 a2), (6, .nilIface), (7, .string t1), (17, .bool x4)]) (fun _ => [(b_0, .cells #[.string a0.s, .int .i64 a0.at_] 132 (0, 0)), (b_1, .cells #[.int .u64 a1.Dst, .int .u64 a1.Src, .bool a1.Tag.Has, .int .i64 a1.Tag.Pri, .bool a1.Tag.Dei, .int .i64 a1.Tag.Vid, .int .i64 a1.Type_, .string a1.Body] 29 (0, 0))]) (fun _ => []) (fun _ => by kernel_rfl) (fun _ => ?_)
    refine WP.done ?_
    refine WP.cond x4 rfl rfl (fun c5 => ?_) (fun c5 => ?_)
    · replace hM := cond_t hM c5
      refine WP.seq ?_
      refine WP.run [] [1, 2, 6, 7] (fun _ => [(1, .pointer (some ⟨b_1, 0, none⟩)), (2, .int .i64 a2), (6, .iface 183 (.agg #[.string (⟨#[116, 121, 112, 101]⟩ : ByteArray), .iface 30 (.int .i64 41)])), (7, .string t1)]) (fun _ => [(b_0, .cells #[.string a0.s, .int .i64 a0.at_] 132 (0, 0)), (b_1, .cells #[.int .u64 a1.Dst, .int .u64 a1.Src, .bool a1.Tag.Has, .int .i64 a1.Tag.Pri, .bool a1.Tag.Dei, .int .i64 a1.Tag.Vid, .int .i64 a1.Type_, .string a1.Body] 29 (0, 0))]) (fun _ => []) (fun _ => by kernel_rfl) (fun _ => ?_)
      obtain rfl := Option.some.inj hM
      exact WP.ret [] [] (.iface 183 (.agg #[.string (⟨#[116, 121, 112, 101]⟩ : ByteArray), .iface 30 (.int .i64 41)])) (by kernel_rfl) (fun w' hw => ⟨(), rfl, hw.pick [0, 1] (by kernel_rfl)⟩)
    · replace hM := cond_f hM c5
      refine WP.seq ?_
      refine WP.run [] [1, 2, 6, 7, 31] (fun _ => [(1, .pointer (some ⟨b_1, 0, none⟩)), (2, .int .i64 a2), (6, .nilIface), (7, .string t1), (31, .bool (decide (a2 > 1500)))]) (fun _ => [(b_0, .cells #[.string a0.s, .int .i64 a0.at_] 132 (0, 0)), (b_1, .cells #[.int .u64 a1.Dst, .int .u64 a1.Src, .bool a1.Tag.Has, .int .i64 a1.Tag.Pri, .bool a1.Tag.Dei, .int .i64 a1.Tag.Vid, .int .i64 a1.Type_, .string a1.Body] 29 (0, 0))]) (fun _ => []) (fun _ => by kernel_rfl) (fun _ => ?_)
      refine WP.cond (decide (a2 > 1500)) rfl rfl (fun c6 => ?_) (fun c6 => ?_)
      · replace hM := cond_t hM c6
        refine WP.seq ?_
        refine WP.run [1, 1] [1, 2, 6, 7] (fun _ => [(1, .pointer (some ⟨b_1, 0, none⟩)), (2, .int .i64 a2), (6, .nilIface), (7, .string t1)]) (fun _ => [(b_0, .cells #[.string a0.s, .int .i64 a0.at_] 132 (0, 0)), (b_1, .cells #[.int .u64 a1.Dst, .int .u64 a1.Src, .bool a1.Tag.Has, .int .i64 a1.Tag.Pri, .bool a1.Tag.Dei, .int .i64 a1.Tag.Vid, .int .i64 a2, .string t1] 29 (0, 0))]) (fun _ => [b_1, b_1]) (fun _ => by kernel_rfl) (fun _ => ?_)
        refine WP.seq ?_
        refine WP.run [] [1, 2, 6, 7] (fun _ => [(1, .pointer (some ⟨b_1, 0, none⟩)), (2, .int .i64 a2), (6, .nilIface), (7, .string t1)]) (fun _ => [(b_0, .cells #[.string a0.s, .int .i64 a0.at_] 132 (0, 0)), (b_1, .cells #[.int .u64 a1.Dst, .int .u64 a1.Src, .bool a1.Tag.Has, .int .i64 a1.Tag.Pri, .bool a1.Tag.Dei, .int .i64 a1.Tag.Vid, .int .i64 a2, .string t1] 29 (0, 0))]) (fun _ => []) (fun _ => by kernel_rfl) (fun _ => ?_)
        obtain rfl := Option.some.inj hM
        exact WP.ret [] [] (.nilIface) (by kernel_rfl) (fun w' hw => ⟨(), rfl, hw.pick [0, 1] (by kernel_rfl)⟩)
      · replace hM := cond_f hM c6
        refine WP.skip ?_
        refine WP.leave ?_
        refine WP.seq ?_
        refine WP.seq ?_
        refine WP.run [] [1, 2, 6, 7, 45] (fun _ => [(1, .pointer (some ⟨b_1, 0, none⟩)), (2, .int .i64 a2), (6, .nilIface), (7, .string t1), (45, .bool (decide (a2 > (t1.size : Int))))]) (fun _ => [(b_0, .cells #[.string a0.s, .int .i64 a0.at_] 132 (0, 0)), (b_1, .cells #[.int .u64 a1.Dst, .int .u64 a1.Src, .bool a1.Tag.Has, .int .i64 a1.Tag.Pri, .bool a1.Tag.Dei, .int .i64 a1.Tag.Vid, .int .i64 a1.Type_, .string a1.Body] 29 (0, 0))]) (fun _ => []) (fun _ => by kernel_rfl) (fun _ => ?_)
        refine WP.cond (decide (a2 > (t1.size : Int))) rfl rfl (fun c7 => ?_) (fun c7 => ?_)
        · replace hM := cond_t hM c7
          refine WP.seq ?_
          refine WP.run [] [1, 2, 6, 7] (fun _ => [(1, .pointer (some ⟨b_1, 0, none⟩)), (2, .int .i64 a2), (6, .iface 183 (.agg #[.string (⟨#[98, 111, 100, 121]⟩ : ByteArray), .iface 30 (.int .i64 40)])), (7, .string t1)]) (fun _ => [(b_0, .cells #[.string a0.s, .int .i64 a0.at_] 132 (0, 0)), (b_1, .cells #[.int .u64 a1.Dst, .int .u64 a1.Src, .bool a1.Tag.Has, .int .i64 a1.Tag.Pri, .bool a1.Tag.Dei, .int .i64 a1.Tag.Vid, .int .i64 a1.Type_, .string a1.Body] 29 (0, 0))]) (fun _ => []) (fun _ => by kernel_rfl) (fun _ => ?_)
          obtain rfl := Option.some.inj hM
          exact WP.ret [] [] (.iface 183 (.agg #[.string (⟨#[98, 111, 100, 121]⟩ : ByteArray), .iface 30 (.int .i64 40)])) (by kernel_rfl) (fun w' hw => ⟨(), rfl, hw.pick [0, 1] (by kernel_rfl)⟩)
        · replace hM := cond_f hM c7
          refine WP.skip ?_
          refine WP.seq ?_
          refine WP.region ?_
          refine WL.run 3 [] [6, 49, 50, 51] (fun _ => [(6, .nilIface), (49, .pointer (some ⟨b_1, 0, none⟩)), (50, .string t1), (51, .int .i64 a2)]) (fun _ => [(b_0, .cells #[.string a0.s, .int .i64 a0.at_] 132 (0, 0)), (b_1, .cells #[.int .u64 a1.Dst, .int .u64 a1.Src, .bool a1.Tag.Has, .int .i64 a1.Tag.Pri, .bool a1.Tag.Dei, .int .i64 a1.Tag.Vid, .int .i64 a1.Type_, .string a1.Body] 29 (0, 0))]) (fun _ => []) (fun _ => by kernel_rfl) (fun _ => ?_)
          obtain ⟨t8, h9, hM⟩ := bind_some hM
          refine WL.val (fun _ => run_sliceS_hi (s := t1) (kh := .i64) (h := a2) (by kernel_rfl) (by kernel_rfl) (by kernel_rfl) h9) (by kernel_rfl) (by kernel_rfl) rfl ?_
          refine WL.run 3 [1] [6] (fun _ => [(6, .nilIface)]) (fun _ => [(b_0, .cells #[.string a0.s, .int .i64 a0.at_] 132 (0, 0)), (b_1, .cells #[.int .u64 a1.Dst, .int .u64 a1.Src, .bool a1.Tag.Has, .int .i64 a1.Tag.Pri, .bool a1.Tag.Dei, .int .i64 a1.Tag.Vid, .int .i64 a1.Type_, .string t8] 29 (0, 0))]) (fun _ => [b_1]) (fun _ => by kernel_rfl) (fun _ => ?_)
          refine WP.done ?_
          refine WP.seq ?_
          refine WP.run [] [6] (fun _ => [(6, .nilIface)]) (fun _ => [(b_0, .cells #[.string a0.s, .int .i64 a0.at_] 132 (0, 0)), (b_1, .cells #[.int .u64 a1.Dst, .int .u64 a1.Src, .bool a1.Tag.Has, .int .i64 a1.Tag.Pri, .bool a1.Tag.Dei, .int .i64 a1.Tag.Vid, .int .i64 a1.Type_, .string t8] 29 (0, 0))]) (fun _ => []) (fun _ => by kernel_rfl) (fun _ => ?_)
          obtain rfl := Option.some.inj hM
          exact WP.ret [] [] (.nilIface) (by kernel_rfl) (fun w' hw => ⟨(), rfl, hw.pick [0, 1] (by kernel_rfl)⟩)
  ·
    refine WL.split (fun b' => [(1, .pointer (some ⟨b_1, 0, none⟩)), (2, .int .i64 a2), (6, .nilIface), (7, .string t1), (20, .bool b')]) (a2 == 33024) (fun c3 => ?_) (fun c3 => ?_)
    · replace hM := cond_t hM c3
      refine WL.run 7 [] [1, 2, 6, 7, 27] (fun _ => [(1, .pointer (some ⟨b_1, 0, none⟩)), (2, .int .i64 a2), (6, .nilIface), (7, .string t1), (27, .bool true)]) (fun _ => [(b_0, .cells #[.string a0.s, .int .i64 a0.at_] 132 (0, 0)), (b_1, .cells #[.int .u64 a1.Dst, .int .u64 a1.Src, .bool a1.Tag.Has, .int .i64 a1.Tag.Pri, .bool a1.Tag.Dei, .int .i64 a1.Tag.Vid, .int .i64 a1.Type_, .string a1.Body] 29 (0, 0))]) (fun _ => []) (fun _ => by kernel_rfl) (fun _ => ?_)
      exact WL.sub [1, 2, 6, 7, 27] (by kernel_rfl) (WL.pick [0, 1] (by kernel_rfl) (by kernel_rfl) (K1 true hM))
    · replace hM := cond_f hM c3
      refine WL.run 3 [] [1, 2, 6, 7, 20, 23] (fun _ => [(1, .pointer (some ⟨b_1, 0, none⟩)), (2, .int .i64 a2), (6, .nilIface), (7, .string t1), (20, .bool false), (23, .bool (decide (a2 > 1500)))]) (fun _ => [(b_0, .cells #[.string a0.s, .int .i64 a0.at_] 132 (0, 0)), (b_1, .cells #[.int .u64 a1.Dst, .int .u64 a1.Src, .bool a1.Tag.Has, .int .i64 a1.Tag.Pri, .bool a1.Tag.Dei, .int .i64 a1.Tag.Vid, .int .i64 a1.Type_, .string a1.Body] 29 (0, 0))]) (fun _ => []) (fun _ => by kernel_rfl) (fun _ => ?_)
      refine WL.sub [1, 2, 6, 7, 20, 23] (L' := [(1, .pointer (some ⟨b_1, 0, none⟩)), (2, .int .i64 a2), (6, .nilIface), (7, .string t1), (20, .bool false), (23, .bool (decide (a2 > 1500)))]) (by kernel_rfl) ?_
      refine WL.both (fun b' => [(1, .pointer (some ⟨b_1, 0, none⟩)), (2, .int .i64 a2), (6, .nilIface), (7, .string t1), (20, .bool false), (23, .bool b')]) (decide (a2 > 1500)) 3 [] [] [1, 2, 6, 7, 20, 26] (fun b' => [(1, .pointer (some ⟨b_1, 0, none⟩)), (2, .int .i64 a2), (6, .nilIface), (7, .string t1), (20, .bool false), (26, .bool (b' && (decide (a2 < 1536))))]) [] [] (fun _ => by kernel_rfl) (fun _ => by kernel_rfl) ?_
      refine WL.run 1 [] [1, 2, 6, 7, 27] (fun _ => [(1, .pointer (some ⟨b_1, 0, none⟩)), (2, .int .i64 a2), (6, .nilIface), (7, .string t1), (27, .bool ((decide (a2 > 1500)) && (decide (a2 < 1536))))]) (fun _ => [(b_0, .cells #[.string a0.s, .int .i64 a0.at_] 132 (0, 0)), (b_1, .cells #[.int .u64 a1.Dst, .int .u64 a1.Src, .bool a1.Tag.Has, .int .i64 a1.Tag.Pri, .bool a1.Tag.Dei, .int .i64 a1.Tag.Vid, .int .i64 a1.Type_, .string a1.Body] 29 (0, 0))]) (fun _ => []) (fun _ => by kernel_rfl) (fun _ => ?_)
      exact WL.sub [1, 2, 6, 7, 27] (by kernel_rfl) (WL.pick [0, 1] (by kernel_rfl) (by kernel_rfl) (K1 ((decide (a2 > 1500)) && (decide (a2 < 1536))) hM))

end Go.Proofs.YtbodofjnfmjbpaaGreatDoor

namespace Go.Proofs.YtbodofjnfmjbpaaGreatDoor
open Go Eng
set_option linter.unusedVariables false
set_option linter.unusedSimpArgs false

/-! ### (*gangway/ether.reader).frame: function 82 -/
def ether_reader_frame.k1 (x29 : Un1) (x30 : Int) (x31 : ByteArray) (x32 : Int) (x33 : Int) (x34 : Int) (x35 : Bool) (x36 : Int) (x37 : Bool) (x38 : Int) (x39 : Int) (x40 : ByteArray) : Option (api_Frame × Un1 × ether_reader) :=
  match x29 with
  | none =>
    (ether_reader_body.f (ether_reader.mk x31 x32) (api_Frame.mk x33 x34 (api_Tag.mk x35 x36 x37 x38) x39 x40) x30).bind fun (r43, r44) =>
    match r43 with
    | none =>
      some (r44, none, (ether_reader.mk x31 x32))
    | some (q46, q47) =>
      some (r44, some (q46, q47), (ether_reader.mk x31 x32))
  | some (q41, q42) =>
    some ((api_Frame.mk x33 x34 (api_Tag.mk x35 x36 x37 x38) x39 x40), some (q41, q42), (ether_reader.mk x31 x32))

def ether_reader_frame.f (k : Nat) (a0 : ether_reader) : Option (api_Frame × Un1 × ether_reader) :=
  (ether_reader_get.f k a0 6 (⟨#[116, 111]⟩ : ByteArray)).bind fun (r3, r4, r5) =>
  match r4 with
  | none =>
    (ether_reader_get.f k r5 6 (⟨#[102, 114, 111, 109]⟩ : ByteArray)).bind fun (r9, r10, r11) =>
    match r10 with
    | none =>
      (ether_reader_get.f k r11 2 (⟨#[116, 121, 112, 101]⟩ : ByteArray)).bind fun (r15, r16, r17) =>
      match r16 with
      | none =>
        bif ((i64 r15) == 33024) then
          (ether_reader_tagged.f k r17 (api_Frame.mk r3 r9 (api_Tag.mk false 0 false 0) 0 (⟨#[]⟩ : ByteArray))).bind fun (r20, r21, r22, r23) =>
          match r21 with
          | none =>
            ether_reader_frame.k1 none r20 r22.s r22.at_ r23.Dst r23.Src r23.Tag.Has r23.Tag.Pri r23.Tag.Dei r23.Tag.Vid r23.Type_ r23.Body
          | some (q27, q28) =>
            ether_reader_frame.k1 (some (q27, q28)) r20 r22.s r22.at_ r23.Dst r23.Src r23.Tag.Has r23.Tag.Pri r23.Tag.Dei r23.Tag.Vid r23.Type_ r23.Body
        else
          ether_reader_frame.k1 none (i64 r15) r17.s r17.at_ r3 r9 false 0 false 0 0 (⟨#[]⟩ : ByteArray)
      | some (q25, q26) =>
        ether_reader_frame.k1 (some (q25, q26)) (i64 r15) r17.s r17.at_ r3 r9 false 0 false 0 0 (⟨#[]⟩ : ByteArray)
    | some (q13, q14) =>
      some ((api_Frame.mk r3 r9 (api_Tag.mk false 0 false 0) 0 (⟨#[]⟩ : ByteArray)), some (q13, q14), r11)
  | some (q7, q8) =>
    some ((api_Frame.mk r3 0 (api_Tag.mk false 0 false 0) 0 (⟨#[]⟩ : ByteArray)), some (q7, q8), r5)

set_option maxRecDepth 100000 in
theorem ether_reader_frame_calls (k : Nat) (b_0 : Nat) (a0 : ether_reader) (r : api_Frame × Un1 × ether_reader) (h : ether_reader_frame.f k a0 = some r) : Does Tryz.prog 82 #[.pointer (some ⟨b_0, 0, none⟩)] [(b_0, .cells #[.string a0.s, .int .i64 a0.at_] 132 (0, 0))] Glob (fun _ : Unit => .tuple #[.agg #[.int .u64 r.1.Dst, .int .u64 r.1.Src, .bool r.1.Tag.Has, .int .i64 r.1.Tag.Pri, .bool r.1.Tag.Dei, .int .i64 r.1.Tag.Vid, .int .i64 r.1.Type_, .string r.1.Body], Un1.v r.2.1]) (fun _ => [(b_0, .cells #[.string r.2.2.s, .int .i64 r.2.2.at_] 132 (0, 0))]) (fun _ => []) (fun _ => Glob) := by
  intro w Z hS
  refine calls_of (args := [.pointer (some ⟨b_0, 0, none⟩)]) (L := [(0, .pointer (some ⟨b_0, 0, none⟩))]) (N := 56) (S := Sat w Z [(b_0, .cells #[.string a0.s, .int .i64 a0.at_] 132 (0, 0))] [] Glob) Tryz.func82 rfl rfl (Nat.le_of_ble_eq_true rfl) rfl hS ?_
  have hM := h
  clear h hS
  unfold ether_reader_frame.f at hM
  refine WP.seq ?_
  refine WP.run [] [0, 2, 3] (fun b1 => [(0, .pointer (some ⟨b_0, 0, none⟩)), (2, .pointer (some ⟨b1, 0, none⟩)), (3, .nilIface)]) (fun b1 => [(b_0, .cells #[.string a0.s, .int .i64 a0.at_] 132 (0, 0)), (b1, .cells #[.int .u64 0, .int .u64 0, .bool false, .int .i64 0, .bool false, .int .i64 0, .int .i64 0, .string (⟨#[]⟩ : ByteArray)] 29 (0, 0))]) (fun b1 => []) (fun b1 => by kernel_rfl) (fun b1 => ?_)
  refine WP.seq ?_
  refine WP.run [] [0, 2, 3, 4] (fun b2 => [(0, .pointer (some ⟨b_0, 0, none⟩)), (2, .pointer (some ⟨b1, 0, none⟩)), (3, .nilIface), (4, .pointer (some ⟨b2, 0, none⟩))]) (fun b2 => [(b_0, .cells #[.string a0.s, .int .i64 a0.at_] 132 (0, 0)), (b1, .cells #[.int .u64 0, .int .u64 0, .bool false, .int .i64 0, .bool false, .int .i64 0, .int .i64 0, .string (⟨#[]⟩ : ByteArray)] 29 (0, 0)), (b2, .cells #[.int .u64 0, .int .u64 0, .bool false, .int .i64 0, .bool false, .int .i64 0, .int .i64 0, .string (⟨#[]⟩ : ByteArray)] 29 (0, 0))]) (fun b2 => []) (fun b2 => by kernel_rfl) (fun b2 => ?_)
  refine WP.seq ?_
  refine WP.run [] [0, 2, 3, 4, 5] (fun _ => [(0, .pointer (some ⟨b_0, 0, none⟩)), (2, .pointer (some ⟨b1, 0, none⟩)), (3, .nilIface), (4, .pointer (some ⟨b2, 0, none⟩)), (5, .nilIface)]) (fun _ => [(b_0, .cells #[.string a0.s, .int .i64 a0.at_] 132 (0, 0)), (b1, .cells #[.int .u64 0, .int .u64 0, .bool false, .int .i64 0, .bool false, .int .i64 0, .int .i64 0, .string (⟨#[]⟩ : ByteArray)] 29 (0, 0)), (b2, .cells #[.int .u64 0, .int .u64 0, .bool false, .int .i64 0, .bool false, .int .i64 0, .int .i64 0, .string (⟨#[]⟩ : ByteArray)] 29 (0, 0))]) (fun _ => []) (fun _ => by kernel_rfl) (fun _ => ?_)
  refine WP.seq ?_
  refine WP.seq ?_
  refine WP.region ?_
  refine WL.run 1 [] [0, 2, 3, 4, 5, 10] (fun _ => [(0, .pointer (some ⟨b_0, 0, none⟩)), (2, .pointer (some ⟨b1, 0, none⟩)), (3, .nilIface), (4, .pointer (some ⟨b2, 0, none⟩)), (5, .nilIface), (10, .pointer (some ⟨b_0, 0, none⟩))]) (fun _ => [(b_0, .cells #[.string a0.s, .int .i64 a0.at_] 132 (0, 0)), (b1, .cells #[.int .u64 0, .int .u64 0, .bool false, .int .i64 0, .bool false, .int .i64 0, .int .i64 0, .string (⟨#[]⟩ : ByteArray)] 29 (0, 0)), (b2, .cells #[.int .u64 0, .int .u64 0, .bool false, .int .i64 0, .bool false, .int .i64 0, .int .i64 0, .string (⟨#[]⟩ : ByteArray)] 29 (0, 0))]) (fun _ => []) (fun _ => by kernel_rfl) (fun _ => ?_)
  obtain ⟨⟨r3, r4, r5⟩, h6, hM⟩ := bind_some hM
  dsimp only at hM
  refine WL.callE (X := Unit) [] [] [true, false, false] (fun _ => _) (ether_reader_get_calls k b_0 a0 6 (⟨#[116, 111]⟩ : ByteArray) _ h6) rfl rfl (fun _ h => h) (by kernel_rfl) (by kernel_rfl) (fun _ => rfl) (fun _ => ?_)
  refine WL.run 6 [2] [0, 2, 3, 4, 5] (fun _ => [(0, .pointer (some ⟨b_0, 0, none⟩)), (2, .pointer (some ⟨b1, 0, none⟩)), (3, .nilIface), (4, .pointer (some ⟨b2, 0, none⟩)), (5, Un1.v r4)]) (fun _ => [(b_0, .cells #[.string r5.s, .int .i64 r5.at_] 132 (0, 0)), (b1, .cells #[.int .u64 0, .int .u64 0, .bool false, .int .i64 0, .bool false, .int .i64 0, .int .i64 0, .string (⟨#[]⟩ : ByteArray)] 29 (0, 0)), (b2, .cells #[.int .u64 r3, .int .u64 0, .bool false, .int .i64 0, .bool false, .int .i64 0, .int .i64 0, .string (⟨#[]⟩ : ByteArray)] 29 (0, 0))]) (fun _ => [b2]) (fun _ => by kernel_rfl) (fun _ => ?_)
  refine WP.done ?_
  refine WP.seq ?_
  refine WP.region ?_
  refine WL.run 1 [] [0, 2, 3, 4, 5, 15] (fun _ => [(0, .pointer (some ⟨b_0, 0, none⟩)), (2, .pointer (some ⟨b1, 0, none⟩)), (3, .nilIface), (4, .pointer (some ⟨b2, 0, none⟩)), (5, Un1.v r4), (15, Un1.v r4)]) (fun _ => [(b_0, .cells #[.string r5.s, .int .i64 r5.at_] 132 (0, 0)), (b1, .cells #[.int .u64 0, .int .u64 0, .bool false, .int .i64 0, .bool false, .int .i64 0, .int .i64 0, .string (⟨#[]⟩ : ByteArray)] 29 (0, 0)), (b2, .cells #[.int .u64 r3, .int .u64 0, .bool false, .int .i64 0, .bool false, .int .i64 0, .int .i64 0, .string (⟨#[]⟩ : ByteArray)] 29 (0, 0))]) (fun _ => []) (fun _ => by kernel_rfl) (fun _ => ?_)
  rcases r4 with _ | ⟨q7, q8⟩
  · dsimp only at hM
    refine WL.run 1 [] [0, 2, 3, 4, 5, 16] (fun _ => [(0, .pointer (some ⟨b_0, 0, none⟩)), (2, .pointer (some ⟨b1, 0, none⟩)), (3, .nilIface), (4, .pointer (some ⟨b2, 0, none⟩)), (5, .nilIface), (16, .bool false)]) (fun _ => [(b_0, .cells #[.string r5.s, .int .i64 r5.at_] 132 (0, 0)), (b1, .cells #[.int .u64 0, .int .u64 0, .bool false, .int .i64 0, .bool false, .int .i64 0, .int .i64 0, .string (⟨#[]⟩ : ByteArray)] 29 (0, 0)), (b2, .cells #[.int .u64 r3, .int .u64 0, .bool false, .int .i64 0, .bool false, .int .i64 0, .int .i64 0, .string (⟨#[]⟩ : ByteArray)] 29 (0, 0))]) (fun _ => []) (fun _ => by kernel_rfl) (fun _ => ?_)
    refine WP.done ?_
    refine WP.no rfl rfl ?_
    refine WP.skip ?_
    refine WP.seq ?_
    refine WP.seq ?_
    refine WP.region ?_
    refine WL.run 1 [] [0, 2, 3, 4, 5, 20] (fun _ => [(0, .pointer (some ⟨b_0, 0, none⟩)), (2, .pointer (some ⟨b1, 0, none⟩)), (3, .nilIface), (4, .pointer (some ⟨b2, 0, none⟩)), (5, .nilIface), (20, .pointer (some ⟨b_0, 0, none⟩))]) (fun _ => [(b_0, .cells #[.string r5.s, .int .i64 r5.at_] 132 (0, 0)), (b1, .cells #[.int .u64 0, .int .u64 0, .bool false, .int .i64 0, .bool false, .int .i64 0, .int .i64 0, .string (⟨#[]⟩ : ByteArray)] 29 (0, 0)), (b2, .cells #[.int .u64 r3, .int .u64 0, .bool false, .int .i64 0, .bool false, .int .i64 0, .int .i64 0, .string (⟨#[]⟩ : ByteArray)] 29 (0, 0))]) (fun _ => []) (fun _ => by kernel_rfl) (fun _ => ?_)
    obtain ⟨⟨r9, r10, r11⟩, h12, hM⟩ := bind_some hM
    dsimp only at hM
    refine WL.callE (X := Unit) [] [] [true, false, false] (fun _ => _) (ether_reader_get_calls k b_0 r5 6 (⟨#[102, 114, 111, 109]⟩ : ByteArray) _ h12) rfl rfl (fun _ h => h) (by kernel_rfl) (by kernel_rfl) (fun _ => rfl) (fun _ => ?_)
    refine WL.run 6 [2] [0, 2, 3, 4, 5] (fun _ => [(0, .pointer (some ⟨b_0, 0, none⟩)), (2, .pointer (some ⟨b1, 0, none⟩)), (3, .nilIface), (4, .pointer (some ⟨b2, 0, none⟩)), (5, Un1.v r10)]) (fun _ => [(b_0, .cells #[.string r11.s, .int .i64 r11.at_] 132 (0, 0)), (b1, .cells #[.int .u64 0, .int .u64 0, .bool false, .int .i64 0, .bool false, .int .i64 0, .int .i64 0, .string (⟨#[]⟩ : ByteArray)] 29 (0, 0)), (b2, .cells #[.int .u64 r3, .int .u64 r9, .bool false, .int .i64 0, .bool false, .int .i64 0, .int .i64 0, .string (⟨#[]⟩ : ByteArray)] 29 (0, 0))]) (fun _ => [b2]) (fun _ => by kernel_rfl) (fun _ => ?_)
    refine WP.done ?_
    refine WP.seq ?_
    refine WP.region ?_
    refine WL.run 1 [] [0, 2, 3, 4, 5, 25] (fun _ => [(0, .pointer (some ⟨b_0, 0, none⟩)), (2, .pointer (some ⟨b1, 0, none⟩)), (3, .nilIface), (4, .pointer (some ⟨b2, 0, none⟩)), (5, Un1.v r10), (25, Un1.v r10)]) (fun _ => [(b_0, .cells #[.string r11.s, .int .i64 r11.at_] 132 (0, 0)), (b1, .cells #[.int .u64 0, .int .u64 0, .bool false, .int .i64 0, .bool false, .int .i64 0, .int .i64 0, .string (⟨#[]⟩ : ByteArray)] 29 (0, 0)), (b2, .cells #[.int .u64 r3, .int .u64 r9, .bool false, .int .i64 0, .bool false, .int .i64 0, .int .i64 0, .string (⟨#[]⟩ : ByteArray)] 29 (0, 0))]) (fun _ => []) (fun _ => by kernel_rfl) (fun _ => ?_)
    rcases r10 with _ | ⟨q13, q14⟩
    · dsimp only at hM
      refine WL.run 1 [] [0, 2, 3, 4, 5, 26] (fun _ => [(0, .pointer (some ⟨b_0, 0, none⟩)), (2, .pointer (some ⟨b1, 0, none⟩)), (3, .nilIface), (4, .pointer (some ⟨b2, 0, none⟩)), (5, .nilIface), (26, .bool false)]) (fun _ => [(b_0, .cells #[.string r11.s, .int .i64 r11.at_] 132 (0, 0)), (b1, .cells #[.int .u64 0, .int .u64 0, .bool false, .int .i64 0, .bool false, .int .i64 0, .int .i64 0, .string (⟨#[]⟩ : ByteArray)] 29 (0, 0)), (b2, .cells #[.int .u64 r3, .int .u64 r9, .bool false, .int .i64 0, .bool false, .int .i64 0, .int .i64 0, .string (⟨#[]⟩ : ByteArray)] 29 (0, 0))]) (fun _ => []) (fun _ => by kernel_rfl) (fun _ => ?_)
      refine WP.done ?_
      refine WP.no rfl rfl ?_
      refine WP.skip ?_
      refine WP.seq ?_
      refine WP.region ?_
      refine WL.run 1 [] [0, 2, 3, 4, 5, 30] (fun _ => [(0, .pointer (some ⟨b_0, 0, none⟩)), (2, .pointer (some ⟨b1, 0, none⟩)), (3, .nilIface), (4, .pointer (some ⟨b2, 0, none⟩)), (5, .nilIface), (30, .pointer (some ⟨b_0, 0, none⟩))]) (fun _ => [(b_0, .cells #[.string r11.s, .int .i64 r11.at_] 132 (0, 0)), (b1, .cells #[.int .u64 0, .int .u64 0, .bool false, .int .i64 0, .bool false, .int .i64 0, .int .i64 0, .string (⟨#[]⟩ : ByteArray)] 29 (0, 0)), (b2, .cells #[.int .u64 r3, .int .u64 r9, .bool false, .int .i64 0, .bool false, .int .i64 0, .int .i64 0, .string (⟨#[]⟩ : ByteArray)] 29 (0, 0))]) (fun _ => []) (fun _ => by kernel_rfl) (fun _ => ?_)
      obtain ⟨⟨r15, r16, r17⟩, h18, hM⟩ := bind_some hM
      dsimp only at hM
      refine WL.callE (X := Unit) [] [] [true, false, false] (fun _ => _) (ether_reader_get_calls k b_0 r11 2 (⟨#[116, 121, 112, 101]⟩ : ByteArray) _ h18) rfl rfl (fun _ h => h) (by kernel_rfl) (by kernel_rfl) (fun _ => rfl) (fun _ => ?_)
      refine WL.run 5 [] [0, 2, 3, 4, 5, 6] (fun _ => [(0, .pointer (some ⟨b_0, 0, none⟩)), (2, .pointer (some ⟨b1, 0, none⟩)), (3, .nilIface), (4, .pointer (some ⟨b2, 0, none⟩)), (5, Un1.v r16), (6, .int .u64 r15)]) (fun _ => [(b_0, .cells #[.string r17.s, .int .i64 r17.at_] 132 (0, 0)), (b1, .cells #[.int .u64 0, .int .u64 0, .bool false, .int .i64 0, .bool false, .int .i64 0, .int .i64 0, .string (⟨#[]⟩ : ByteArray)] 29 (0, 0)), (b2, .cells #[.int .u64 r3, .int .u64 r9, .bool false, .int .i64 0, .bool false, .int .i64 0, .int .i64 0, .string (⟨#[]⟩ : ByteArray)] 29 (0, 0))]) (fun _ => []) (fun _ => by kernel_rfl) (fun _ => ?_)
      refine WP.done ?_
      refine WP.seq ?_
      refine WP.run [] [0, 2, 3, 4, 5, 7] (fun _ => [(0, .pointer (some ⟨b_0, 0, none⟩)), (2, .pointer (some ⟨b1, 0, none⟩)), (3, .nilIface), (4, .pointer (some ⟨b2, 0, none⟩)), (5, Un1.v r16), (7, .int .i64 (i64 r15))]) (fun _ => [(b_0, .cells #[.string r17.s, .int .i64 r17.at_] 132 (0, 0)), (b1, .cells #[.int .u64 0, .int .u64 0, .bool false, .int .i64 0, .bool false, .int .i64 0, .int .i64 0, .string (⟨#[]⟩ : ByteArray)] 29 (0, 0)), (b2, .cells #[.int .u64 r3, .int .u64 r9, .bool false, .int .i64 0, .bool false, .int .i64 0, .int .i64 0, .string (⟨#[]⟩ : ByteArray)] 29 (0, 0))]) (fun _ => []) (fun _ => by kernel_rfl) (fun _ => ?_)
      refine WP.seqJoin (σ := Un1 × Int × ByteArray × Int × Int × Int × Bool × Int × Bool × Int × Int × ByteArray) (fun st => ether_reader_frame.k1 st.1 st.2.1 st.2.2.1 st.2.2.2.1 st.2.2.2.2.1 st.2.2.2.2.2.1 st.2.2.2.2.2.2.1 st.2.2.2.2.2.2.2.1 st.2.2.2.2.2.2.2.2.1 st.2.2.2.2.2.2.2.2.2.1 st.2.2.2.2.2.2.2.2.2.2.1 st.2.2.2.2.2.2.2.2.2.2.2 = some r) (fun st => [(0, .pointer (some ⟨b_0, 0, none⟩)), (2, .pointer (some ⟨b1, 0, none⟩)), (3, .nilIface), (4, .pointer (some ⟨b2, 0, none⟩)), (5, Un1.v st.1), (7, .int .i64 st.2.1)]) (fun st => Sat w Z [(b_0, .cells #[.string st.2.2.1, .int .i64 st.2.2.2.1] 132 (0, 0)), (b2, .cells #[.int .u64 st.2.2.2.2.1, .int .u64 st.2.2.2.2.2.1, .bool st.2.2.2.2.2.2.1, .int .i64 st.2.2.2.2.2.2.2.1, .bool st.2.2.2.2.2.2.2.2.1, .int .i64 st.2.2.2.2.2.2.2.2.2.1, .int .i64 st.2.2.2.2.2.2.2.2.2.2.1, .string st.2.2.2.2.2.2.2.2.2.2.2] 29 (0, 0)), (b1, .cells #[.int .u64 0, .int .u64 0, .bool false, .int .i64 0, .bool false, .int .i64 0, .int .i64 0, .string (⟨#[]⟩ : ByteArray)] 29 (0, 0))] [] Glob) (fun st hM => ?_) (fun K1 => ?_)
      ·
        obtain ⟨x29, x30, x31, x32, x33, x34, x35, x36, x37, x38, x39, x40⟩ := st
        replace hM : ether_reader_frame.k1 x29 x30 x31 x32 x33 x34 x35 x36 x37 x38 x39 x40 = some r := hM
        unfold ether_reader_frame.k1 at hM
        show WP _ _ _ _ _ [(0, .pointer (some ⟨b_0, 0, none⟩)), (2, .pointer (some ⟨b1, 0, none⟩)), (3, .nilIface), (4, .pointer (some ⟨b2, 0, none⟩)), (5, Un1.v x29), (7, .int .i64 x30)] (Sat w Z [(b_0, .cells #[.string x31, .int .i64 x32] 132 (0, 0)), (b2, .cells #[.int .u64 x33, .int .u64 x34, .bool x35, .int .i64 x36, .bool x37, .int .i64 x38, .int .i64 x39, .string x40] 29 (0, 0)), (b1, .cells #[.int .u64 0, .int .u64 0, .bool false, .int .i64 0, .bool false, .int .i64 0, .int .i64 0, .string (⟨#[]⟩ : ByteArray)] 29 (0, 0))] [] Glob)
        refine WP.seq ?_
        refine WP.seq ?_
        refine WP.region ?_
        refine WL.run 1 [] [0, 2, 3, 4, 5, 7, 47] (fun _ => [(0, .pointer (some ⟨b_0, 0, none⟩)), (2, .pointer (some ⟨b1, 0, none⟩)), (3, .nilIface), (4, .pointer (some ⟨b2, 0, none⟩)), (5, Un1.v x29), (7, .int .i64 x30), (47, Un1.v x29)]) (fun _ => [(b_0, .cells #[.string x31, .int .i64 x32] 132 (0, 0)), (b2, .cells #[.int .u64 x33, .int .u64 x34, .bool x35, .int .i64 x36, .bool x37, .int .i64 x38, .int .i64 x39, .string x40] 29 (0, 0)), (b1, .cells #[.int .u64 0, .int .u64 0, .bool false, .int .i64 0, .bool false, .int .i64 0, .int .i64 0, .string (⟨#[]⟩ : ByteArray)] 29 (0, 0))]) (fun _ => []) (fun _ => by kernel_rfl) (fun _ => ?_)
        rcases x29 with _ | ⟨q41, q42⟩
        · dsimp only at hM
          refine WL.run 1 [] [0, 2, 3, 4, 5, 7, 48] (fun _ => [(0, .pointer (some ⟨b_0, 0, none⟩)), (2, .pointer (some ⟨b1, 0, none⟩)), (3, .nilIface), (4, .pointer (some ⟨b2, 0, none⟩)), (5, .nilIface), (7, .int .i64 x30), (48, .bool false)]) (fun _ => [(b_0, .cells #[.string x31, .int .i64 x32] 132 (0, 0)), (b2, .cells #[.int .u64 x33, .int .u64 x34, .bool x35, .int .i64 x36, .bool x37, .int .i64 x38, .int .i64 x39, .string x40] 29 (0, 0)), (b1, .cells #[.int .u64 0, .int .u64 0, .bool false, .int .i64 0, .bool false, .int .i64 0, .int .i64 0, .string (⟨#[]⟩ : ByteArray)] 29 (0, 0))]) (fun _ => []) (fun _ => by kernel_rfl) (fun _ => ?_)
          refine WP.done ?_
          refine WP.no rfl rfl ?_
          refine WP.skip ?_
          refine WP.seq ?_
          refine WP.region ?_
          refine WL.run 2 [] [2, 3, 4, 51, 52] (fun _ => [(2, .pointer (some ⟨b1, 0, none⟩)), (3, .nilIface), (4, .pointer (some ⟨b2, 0, none⟩)), (51, .pointer (some ⟨b_0, 0, none⟩)), (52, .int .i64 x30)]) (fun _ => [(b_0, .cells #[.string x31, .int .i64 x32] 132 (0, 0)), (b2, .cells #[.int .u64 x33, .int .u64 x34, .bool x35, .int .i64 x36, .bool x37, .int .i64 x38, .int .i64 x39, .string x40] 29 (0, 0)), (b1, .cells #[.int .u64 0, .int .u64 0, .bool false, .int .i64 0, .bool false, .int .i64 0, .int .i64 0, .string (⟨#[]⟩ : ByteArray)] 29 (0, 0))]) (fun _ => []) (fun _ => by kernel_rfl) (fun _ => ?_)
          obtain ⟨⟨r43, r44⟩, h45, hM⟩ := bind_some hM
          dsimp only at hM
          refine WL.callE (X := Unit) [] [] [true, true, false] (fun _ => _) (ether_reader_body_calls b_0 b2 (ether_reader.mk x31 x32) (api_Frame.mk x33 x34 (api_Tag.mk x35 x36 x37 x38) x39 x40) x30 _ h45) rfl rfl (fun _ h => h) (by kernel_rfl) (by kernel_rfl) (fun _ => rfl) (fun _ => ?_)
          refine WL.run 1 [] [2, 3, 4, 8] (fun _ => [(2, .pointer (some ⟨b1, 0, none⟩)), (3, .nilIface), (4, .pointer (some ⟨b2, 0, none⟩)), (8, Un1.v r43)]) (fun _ => [(b_0, .cells #[.string x31, .int .i64 x32] 132 (0, 0)), (b2, .cells #[.int .u64 r44.Dst, .int .u64 r44.Src, .bool r44.Tag.Has, .int .i64 r44.Tag.Pri, .bool r44.Tag.Dei, .int .i64 r44.Tag.Vid, .int .i64 r44.Type_, .string r44.Body] 29 (0, 0)), (b1, .cells #[.int .u64 0, .int .u64 0, .bool false, .int .i64 0, .bool false, .int .i64 0, .int .i64 0, .string (⟨#[]⟩ : ByteArray)] 29 (0, 0))]) (fun _ => []) (fun _ => by kernel_rfl) (fun _ => ?_)
          refine WP.done ?_
          refine WP.seq ?_
          refine WP.run [1, 1, 1, 1, 1, 1, 1, 1, 2, 2, 2, 2, 2, 2, 2, 2] [2, 3] (fun _ => [(2, .pointer (some ⟨b1, 0, none⟩)), (3, Un1.v r43)]) (fun _ => [(b_0, .cells #[.string x31, .int .i64 x32] 132 (0, 0)), (b2, .cells #[.int .u64 r44.Dst, .int .u64 r44.Src, .bool r44.Tag.Has, .int .i64 r44.Tag.Pri, .bool r44.Tag.Dei, .int .i64 r44.Tag.Vid, .int .i64 r44.Type_, .string r44.Body] 29 (0, 0)), (b1, .cells #[.int .u64 r44.Dst, .int .u64 r44.Src, .bool r44.Tag.Has, .int .i64 r44.Tag.Pri, .bool r44.Tag.Dei, .int .i64 r44.Tag.Vid, .int .i64 r44.Type_, .string r44.Body] 29 (0, 0))]) (fun _ => [b1, b1, b1, b1, b1, b1, b1, b1, b2, b2, b2, b2, b2, b2, b2, b2]) (fun _ => by kernel_rfl) (fun _ => ?_)
          refine WP.keep [true, false, true] (by kernel_rfl : _ = [(b_0, .cells #[.string x31, .int .i64 x32] 132 (0, 0)), (b1, .cells #[.int .u64 r44.Dst, .int .u64 r44.Src, .bool r44.Tag.Has, .int .i64 r44.Tag.Pri, .bool r44.Tag.Dei, .int .i64 r44.Tag.Vid, .int .i64 r44.Type_, .string r44.Body] 29 (0, 0))]) ?_
          rcases r43 with _ | ⟨q46, q47⟩
          · dsimp only at hM
            obtain rfl := Option.some.inj hM
            exact WP.ret [1, 1, 1, 1, 1, 1, 1, 1] [b1, b1, b1, b1, b1, b1, b1, b1] (.tuple #[.agg #[.int .u64 r44.Dst, .int .u64 r44.Src, .bool r44.Tag.Has, .int .i64 r44.Tag.Pri, .bool r44.Tag.Dei, .int .i64 r44.Tag.Vid, .int .i64 r44.Type_, .string r44.Body], .nilIface]) (by kernel_rfl) (fun w' hw => ⟨(), rfl, hw.pick [0] (by kernel_rfl)⟩)
          · dsimp only at hM
            obtain rfl := Option.some.inj hM
            exact WP.ret [1, 1, 1, 1, 1, 1, 1, 1] [b1, b1, b1, b1, b1, b1, b1, b1] (.tuple #[.agg #[.int .u64 r44.Dst, .int .u64 r44.Src, .bool r44.Tag.Has, .int .i64 r44.Tag.Pri, .bool r44.Tag.Dei, .int .i64 r44.Tag.Vid, .int .i64 r44.Type_, .string r44.Body], .iface 183 (.agg #[.string q46, .iface 30 (.int .i64 q47)])]) (by kernel_rfl) (fun w' hw => ⟨(), rfl, hw.pick [0] (by kernel_rfl)⟩)
        · dsimp only at hM
          refine WL.run 1 [] [0, 2, 3, 4, 5, 7, 48] (fun _ => [(0, .pointer (some ⟨b_0, 0, none⟩)), (2, .pointer (some ⟨b1, 0, none⟩)), (3, .nilIface), (4, .pointer (some ⟨b2, 0, none⟩)), (5, .iface 183 (.agg #[.string q41, .iface 30 (.int .i64 q42)])), (7, .int .i64 x30), (48, .bool true)]) (fun _ => [(b_0, .cells #[.string x31, .int .i64 x32] 132 (0, 0)), (b2, .cells #[.int .u64 x33, .int .u64 x34, .bool x35, .int .i64 x36, .bool x37, .int .i64 x38, .int .i64 x39, .string x40] 29 (0, 0)), (b1, .cells #[.int .u64 0, .int .u64 0, .bool false, .int .i64 0, .bool false, .int .i64 0, .int .i64 0, .string (⟨#[]⟩ : ByteArray)] 29 (0, 0))]) (fun _ => []) (fun _ => by kernel_rfl) (fun _ => ?_)
          refine WP.done ?_
          refine WP.yes rfl rfl ?_
          refine WP.seq ?_
          refine WP.run [1, 1, 1, 1, 1, 1, 1, 1, 2, 2, 2, 2, 2, 2, 2, 2] [0, 2, 3, 4, 7] (fun _ => [(0, .pointer (some ⟨b_0, 0, none⟩)), (2, .pointer (some ⟨b1, 0, none⟩)), (3, .iface 183 (.agg #[.string q41, .iface 30 (.int .i64 q42)])), (4, .pointer (some ⟨b2, 0, none⟩)), (7, .int .i64 x30)]) (fun _ => [(b_0, .cells #[.string x31, .int .i64 x32] 132 (0, 0)), (b2, .cells #[.int .u64 x33, .int .u64 x34, .bool x35, .int .i64 x36, .bool x37, .int .i64 x38, .int .i64 x39, .string x40] 29 (0, 0)), (b1, .cells #[.int .u64 x33, .int .u64 x34, .bool x35, .int .i64 x36, .bool x37, .int .i64 x38, .int .i64 x39, .string x40] 29 (0, 0))]) (fun _ => [b1, b1, b1, b1, b1, b1, b1, b1, b2, b2, b2, b2, b2, b2, b2, b2]) (fun _ => by kernel_rfl) (fun _ => ?_)
          obtain rfl := Option.some.inj hM
          exact WP.ret [2, 2, 2, 2, 2, 2, 2, 2] [b1, b1, b1, b1, b1, b1, b1, b1] (.tuple #[.agg #[.int .u64 x33, .int .u64 x34, .bool x35, .int .i64 x36, .bool x37, .int .i64 x38, .int .i64 x39, .string x40], .iface 183 (.agg #[.string q41, .iface 30 (.int .i64 q42)])]) (by kernel_rfl) (fun w' hw => ⟨(), rfl, hw.pick [0] (by kernel_rfl)⟩)
      ·
        refine WP.seq ?_
        refine WP.region ?_
        refine WL.run 1 [] [0, 2, 3, 4, 5, 7, 36] (fun _ => [(0, .pointer (some ⟨b_0, 0, none⟩)), (2, .pointer (some ⟨b1, 0, none⟩)), (3, .nilIface), (4, .pointer (some ⟨b2, 0, none⟩)), (5, Un1.v r16), (7, .int .i64 (i64 r15)), (36, Un1.v r16)]) (fun _ => [(b_0, .cells #[.string r17.s, .int .i64 r17.at_] 132 (0, 0)), (b1, .cells #[.int .u64 0, .int .u64 0, .bool false, .int .i64 0, .bool false, .int .i64 0, .int .i64 0, .string (⟨#[]⟩ : ByteArray)] 29 (0, 0)), (b2, .cells #[.int .u64 r3, .int .u64 r9, .bool false, .int .i64 0, .bool false, .int .i64 0, .int .i64 0, .string (⟨#[]⟩ : ByteArray)] 29 (0, 0))]) (fun _ => []) (fun _ => by kernel_rfl) (fun _ => ?_)
        rcases r16 with _ | ⟨q25, q26⟩
        · dsimp only at hM
          refine WL.run 5 [] [0, 2, 3, 4, 5, 7, 41] (fun _ => [(0, .pointer (some ⟨b_0, 0, none⟩)), (2, .pointer (some ⟨b1, 0, none⟩)), (3, .nilIface), (4, .pointer (some ⟨b2, 0, none⟩)), (5, .nilIface), (7, .int .i64 (i64 r15)), (41, .bool ((i64 r15) == 33024))]) (fun _ => [(b_0, .cells #[.string r17.s, .int .i64 r17.at_] 132 (0, 0)), (b1, .cells #[.int .u64 0, .int .u64 0, .bool false, .int .i64 0, .bool false, .int .i64 0, .int .i64 0, .string (⟨#[]⟩ : ByteArray)] 29 (0, 0)), (b2, .cells #[.int .u64 r3, .int .u64 r9, .bool false, .int .i64 0, .bool false, .int .i64 0, .int .i64 0, .string (⟨#[]⟩ : ByteArray)] 29 (0, 0))]) (fun _ => []) (fun _ => by kernel_rfl) (fun _ => ?_)
          refine WP.done ?_
          refine WP.cond ((i64 r15) == 33024) rfl rfl (fun c19 => ?_) (fun c19 => ?_)
          · replace hM := cond_t hM c19
            refine WP.region ?_
            refine WL.run 1 [] [0, 2, 3, 4, 5, 7, 43] (fun _ => [(0, .pointer (some ⟨b_0, 0, none⟩)), (2, .pointer (some ⟨b1, 0, none⟩)), (3, .nilIface), (4, .pointer (some ⟨b2, 0, none⟩)), (5, .nilIface), (7, .int .i64 (i64 r15)), (43, .pointer (some ⟨b_0, 0, none⟩))]) (fun _ => [(b_0, .cells #[.string r17.s, .int .i64 r17.at_] 132 (0, 0)), (b1, .cells #[.int .u64 0, .int .u64 0, .bool false, .int .i64 0, .bool false, .int .i64 0, .int .i64 0, .string (⟨#[]⟩ : ByteArray)] 29 (0, 0)), (b2, .cells #[.int .u64 r3, .int .u64 r9, .bool false, .int .i64 0, .bool false, .int .i64 0, .int .i64 0, .string (⟨#[]⟩ : ByteArray)] 29 (0, 0))]) (fun _ => []) (fun _ => by kernel_rfl) (fun _ => ?_)
            obtain ⟨⟨r20, r21, r22, r23⟩, h24, hM⟩ := bind_some hM
            dsimp only at hM
            refine WL.callE (X := Unit) [] [] [true, false, true] (fun _ => _) (ether_reader_tagged_calls k b_0 b2 r17 (api_Frame.mk r3 r9 (api_Tag.mk false 0 false 0) 0 (⟨#[]⟩ : ByteArray)) _ h24) rfl rfl (fun _ h => h) (by kernel_rfl) (by kernel_rfl) (fun _ => rfl) (fun _ => ?_)
            refine WL.run 5 [] [0, 2, 3, 4, 5, 7] (fun _ => [(0, .pointer (some ⟨b_0, 0, none⟩)), (2, .pointer (some ⟨b1, 0, none⟩)), (3, .nilIface), (4, .pointer (some ⟨b2, 0, none⟩)), (5, Un1.v r21), (7, .int .i64 r20)]) (fun _ => [(b_0, .cells #[.string r22.s, .int .i64 r22.at_] 132 (0, 0)), (b2, .cells #[.int .u64 r23.Dst, .int .u64 r23.Src, .bool r23.Tag.Has, .int .i64 r23.Tag.Pri, .bool r23.Tag.Dei, .int .i64 r23.Tag.Vid, .int .i64 r23.Type_, .string r23.Body] 29 (0, 0)), (b1, .cells #[.int .u64 0, .int .u64 0, .bool false, .int .i64 0, .bool false, .int .i64 0, .int .i64 0, .string (⟨#[]⟩ : ByteArray)] 29 (0, 0))]) (fun _ => []) (fun _ => by kernel_rfl) (fun _ => ?_)
            refine WP.done ?_
            rcases r21 with _ | ⟨q27, q28⟩
            · dsimp only at hM
              exact WP.sub [0, 2, 3, 4, 5, 7] (by kernel_rfl) (WP.pick [0, 1, 2] (by kernel_rfl) (by kernel_rfl) (K1 (none, r20, r22.s, r22.at_, r23.Dst, r23.Src, r23.Tag.Has, r23.Tag.Pri, r23.Tag.Dei, r23.Tag.Vid, r23.Type_, r23.Body) hM))
            · dsimp only at hM
              exact WP.sub [0, 2, 3, 4, 5, 7] (by kernel_rfl) (WP.pick [0, 1, 2] (by kernel_rfl) (by kernel_rfl) (K1 (some (q27, q28), r20, r22.s, r22.at_, r23.Dst, r23.Src, r23.Tag.Has, r23.Tag.Pri, r23.Tag.Dei, r23.Tag.Vid, r23.Type_, r23.Body) hM))
          · replace hM := cond_f hM c19
            refine WP.skip ?_
            exact WP.sub [0, 2, 3, 4, 5, 7] (by kernel_rfl) (WP.pick [0, 2, 1] (by kernel_rfl) (by kernel_rfl) (K1 (none, i64 r15, r17.s, r17.at_, r3, r9, false, 0, false, 0, 0, (⟨#[]⟩ : ByteArray)) hM))
        · dsimp only at hM
          refine WL.run 5 [] [0, 2, 3, 4, 5, 7, 41] (fun _ => [(0, .pointer (some ⟨b_0, 0, none⟩)), (2, .pointer (some ⟨b1, 0, none⟩)), (3, .nilIface), (4, .pointer (some ⟨b2, 0, none⟩)), (5, .iface 183 (.agg #[.string q25, .iface 30 (.int .i64 q26)])), (7, .int .i64 (i64 r15)), (41, .bool false)]) (fun _ => [(b_0, .cells #[.string r17.s, .int .i64 r17.at_] 132 (0, 0)), (b1, .cells #[.int .u64 0, .int .u64 0, .bool false, .int .i64 0, .bool false, .int .i64 0, .int .i64 0, .string (⟨#[]⟩ : ByteArray)] 29 (0, 0)), (b2, .cells #[.int .u64 r3, .int .u64 r9, .bool false, .int .i64 0, .bool false, .int .i64 0, .int .i64 0, .string (⟨#[]⟩ : ByteArray)] 29 (0, 0))]) (fun _ => []) (fun _ => by kernel_rfl) (fun _ => ?_)
          refine WP.done ?_
          refine WP.no rfl rfl ?_
          refine WP.skip ?_
          exact WP.sub [0, 2, 3, 4, 5, 7] (by kernel_rfl) (WP.pick [0, 2, 1] (by kernel_rfl) (by kernel_rfl) (K1 (some (q25, q26), i64 r15, r17.s, r17.at_, r3, r9, false, 0, false, 0, 0, (⟨#[]⟩ : ByteArray)) hM))
    · dsimp only at hM
      refine WL.run 1 [] [0, 2, 3, 4, 5, 26] (fun _ => [(0, .pointer (some ⟨b_0, 0, none⟩)), (2, .pointer (some ⟨b1, 0, none⟩)), (3, .nilIface), (4, .pointer (some ⟨b2, 0, none⟩)), (5, .iface 183 (.agg #[.string q13, .iface 30 (.int .i64 q14)])), (26, .bool true)]) (fun _ => [(b_0, .cells #[.string r11.s, .int .i64 r11.at_] 132 (0, 0)), (b1, .cells #[.int .u64 0, .int .u64 0, .bool false, .int .i64 0, .bool false, .int .i64 0, .int .i64 0, .string (⟨#[]⟩ : ByteArray)] 29 (0, 0)), (b2, .cells #[.int .u64 r3, .int .u64 r9, .bool false, .int .i64 0, .bool false, .int .i64 0, .int .i64 0, .string (⟨#[]⟩ : ByteArray)] 29 (0, 0))]) (fun _ => []) (fun _ => by kernel_rfl) (fun _ => ?_)
      refine WP.done ?_
      refine WP.yes rfl rfl ?_
      refine WP.seq ?_
      refine WP.run [2, 2, 2, 2, 2, 2, 2, 2, 1, 1, 1, 1, 1, 1, 1, 1] [0, 2, 3, 4, 5] (fun _ => [(0, .pointer (some ⟨b_0, 0, none⟩)), (2, .pointer (some ⟨b1, 0, none⟩)), (3, .iface 183 (.agg #[.string q13, .iface 30 (.int .i64 q14)])), (4, .pointer (some ⟨b2, 0, none⟩)), (5, .iface 183 (.agg #[.string q13, .iface 30 (.int .i64 q14)]))]) (fun _ => [(b_0, .cells #[.string r11.s, .int .i64 r11.at_] 132 (0, 0)), (b1, .cells #[.int .u64 r3, .int .u64 r9, .bool false, .int .i64 0, .bool false, .int .i64 0, .int .i64 0, .string (⟨#[]⟩ : ByteArray)] 29 (0, 0)), (b2, .cells #[.int .u64 r3, .int .u64 r9, .bool false, .int .i64 0, .bool false, .int .i64 0, .int .i64 0, .string (⟨#[]⟩ : ByteArray)] 29 (0, 0))]) (fun _ => [b1, b1, b1, b1, b1, b1, b1, b1, b2, b2, b2, b2, b2, b2, b2, b2]) (fun _ => by kernel_rfl) (fun _ => ?_)
      obtain rfl := Option.some.inj hM
      exact WP.ret [1, 1, 1, 1, 1, 1, 1, 1] [b1, b1, b1, b1, b1, b1, b1, b1] (.tuple #[.agg #[.int .u64 r3, .int .u64 r9, .bool false, .int .i64 0, .bool false, .int .i64 0, .int .i64 0, .string (⟨#[]⟩ : ByteArray)], .iface 183 (.agg #[.string q13, .iface 30 (.int .i64 q14)])]) (by kernel_rfl) (fun w' hw => ⟨(), rfl, hw.pick [0] (by kernel_rfl)⟩)
  · dsimp only at hM
    refine WL.run 1 [] [0, 2, 3, 4, 5, 16] (fun _ => [(0, .pointer (some ⟨b_0, 0, none⟩)), (2, .pointer (some ⟨b1, 0, none⟩)), (3, .nilIface), (4, .pointer (some ⟨b2, 0, none⟩)), (5, .iface 183 (.agg #[.string q7, .iface 30 (.int .i64 q8)])), (16, .bool true)]) (fun _ => [(b_0, .cells #[.string r5.s, .int .i64 r5.at_] 132 (0, 0)), (b1, .cells #[.int .u64 0, .int .u64 0, .bool false, .int .i64 0, .bool false, .int .i64 0, .int .i64 0, .string (⟨#[]⟩ : ByteArray)] 29 (0, 0)), (b2, .cells #[.int .u64 r3, .int .u64 0, .bool false, .int .i64 0, .bool false, .int .i64 0, .int .i64 0, .string (⟨#[]⟩ : ByteArray)] 29 (0, 0))]) (fun _ => []) (fun _ => by kernel_rfl) (fun _ => ?_)
    refine WP.done ?_
    refine WP.yes rfl rfl ?_
    refine WP.seq ?_
    refine WP.run [2, 2, 2, 2, 2, 2, 2, 2, 1, 1, 1, 1, 1, 1, 1, 1] [0, 2, 3, 4, 5] (fun _ => [(0, .pointer (some ⟨b_0, 0, none⟩)), (2, .pointer (some ⟨b1, 0, none⟩)), (3, .iface 183 (.agg #[.string q7, .iface 30 (.int .i64 q8)])), (4, .pointer (some ⟨b2, 0, none⟩)), (5, .iface 183 (.agg #[.string q7, .iface 30 (.int .i64 q8)]))]) (fun _ => [(b_0, .cells #[.string r5.s, .int .i64 r5.at_] 132 (0, 0)), (b1, .cells #[.int .u64 r3, .int .u64 0, .bool false, .int .i64 0, .bool false, .int .i64 0, .int .i64 0, .string (⟨#[]⟩ : ByteArray)] 29 (0, 0)), (b2, .cells #[.int .u64 r3, .int .u64 0, .bool false, .int .i64 0, .bool false, .int .i64 0, .int .i64 0, .string (⟨#[]⟩ : ByteArray)] 29 (0, 0))]) (fun _ => [b1, b1, b1, b1, b1, b1, b1, b1, b2, b2, b2, b2, b2, b2, b2, b2]) (fun _ => by kernel_rfl) (fun _ => ?_)
    obtain rfl := Option.some.inj hM
    exact WP.ret [1, 1, 1, 1, 1, 1, 1, 1] [b1, b1, b1, b1, b1, b1, b1, b1] (.tuple #[.agg #[.int .u64 r3, .int .u64 0, .bool false, .int .i64 0, .bool false, .int .i64 0, .int .i64 0, .string (⟨#[]⟩ : ByteArray)], .iface 183 (.agg #[.string q7, .iface 30 (.int .i64 q8)])]) (by kernel_rfl) (fun w' hw => ⟨(), rfl, hw.pick [0] (by kernel_rfl)⟩)

end Go.Proofs.YtbodofjnfmjbpaaGreatDoor

namespace Go.Proofs.YtbodofjnfmjbpaaGreatDoor
open Go Eng
set_option linter.unusedVariables false
set_option linter.unusedSimpArgs false

/-! ### errors.Is: function 83 -/
def errors_Is.f (a1 : Int) : Option (Bool) :=
  some false

set_option maxRecDepth 100000 in
theorem errors_Is_calls (a1 : Int) (r : Bool) (h : errors_Is.f a1 = some r) : Pure Tryz.prog Glob 83 #[.nilIface, .iface 30 (.int .i64 a1)] (.bool r) := by
  intro w Z hS
  refine calls_of (args := [.nilIface, .iface 30 (.int .i64 a1)]) (L := [(0, .nilIface), (1, .iface 30 (.int .i64 a1))]) (N := 22) (S := Sat w Z [] [] Glob) Tryz.func83 rfl rfl (Nat.le_of_ble_eq_true rfl) rfl hS ?_
  have hM := h
  clear h hS
  unfold errors_Is.f at hM
  refine WP.seq ?_
  refine WP.run [] [0, 1, 4] (fun _ => [(0, .nilIface), (1, .iface 30 (.int .i64 a1)), (4, .bool false)]) (fun _ => []) (fun _ => []) (fun _ => by kernel_rfl) (fun _ => ?_)
  refine WP.seq ?_
  refine WP.seq ?_
  refine WP.run [] [0, 1, 4, 11] (fun _ => [(0, .nilIface), (1, .iface 30 (.int .i64 a1)), (4, .bool false), (11, .bool true)]) (fun _ => []) (fun _ => []) (fun _ => by kernel_rfl) (fun _ => ?_)
  refine WP.yes rfl rfl ?_
  refine WP.seq ?_
  refine WP.run [] [0, 1, 4] (fun _ => [(0, .nilIface), (1, .iface 30 (.int .i64 a1)), (4, .bool false)]) (fun _ => []) (fun _ => []) (fun _ => by kernel_rfl) (fun _ => ?_)
  obtain rfl := Option.some.inj hM
  exact WP.ret [] [] (.bool false) (by kernel_rfl) (fun w' hw => ⟨rfl, hw.pick [] rfl⟩)

end Go.Proofs.YtbodofjnfmjbpaaGreatDoor

namespace Go.Proofs.YtbodofjnfmjbpaaGreatDoor
open Go Eng
set_option linter.unusedVariables false
set_option linter.unusedSimpArgs false

/-! ### (gangway/ether.odd).Unwrap: function 163 -/
def ether_odd_Unwrap.f (a0 : ByteArray) (a0_1 : Int) : Option (Int) :=
  some a0_1

set_option maxRecDepth 100000 in
theorem ether_odd_Unwrap_calls (a0 : ByteArray) (a0_1 : Int) (r : Int) (h : ether_odd_Unwrap.f a0 a0_1 = some r) : Pure Tryz.prog Glob 163 #[.agg #[.string a0, .iface 30 (.int .i64 a0_1)]] (.iface 30 (.int .i64 r)) := by
  intro w Z hS
  refine calls_of (args := [.agg #[.string a0, .iface 30 (.int .i64 a0_1)]]) (L := [(0, .agg #[.string a0, .iface 30 (.int .i64 a0_1)])]) (N := 5) (S := Sat w Z [] [] Glob) Tryz.func163 rfl rfl (Nat.le_of_ble_eq_true rfl) rfl hS ?_
  have hM := h
  clear h hS
  unfold ether_odd_Unwrap.f at hM
  refine WP.seq ?_
  refine WP.run [] [1, 2] (fun b1 => [(1, .pointer (some ⟨b1, 0, none⟩)), (2, .nilIface)]) (fun b1 => [(b1, .cells #[.string a0, .iface 30 (.int .i64 a0_1)] 183 (0, 0))]) (fun b1 => []) (fun b1 => by kernel_rfl) (fun b1 => ?_)
  refine WP.seq ?_
  refine WP.run [0] [2] (fun _ => [(2, .iface 30 (.int .i64 a0_1))]) (fun _ => [(b1, .cells #[.string a0, .iface 30 (.int .i64 a0_1)] 183 (0, 0))]) (fun _ => [b1]) (fun _ => by kernel_rfl) (fun _ => ?_)
  refine WP.keep [false] (by kernel_rfl : _ = []) ?_
  obtain rfl := Option.some.inj hM
  exact WP.ret [] [] (.iface 30 (.int .i64 a0_1)) (by kernel_rfl) (fun w' hw => ⟨rfl, hw.pick [] rfl⟩)

end Go.Proofs.YtbodofjnfmjbpaaGreatDoor

namespace Go.Proofs.YtbodofjnfmjbpaaGreatDoor
open Go Eng
set_option linter.unusedVariables false
set_option linter.unusedSimpArgs false

/-! ### errors.is: function 109 -/
def errors_is.f (a0 : ByteArray) (a0_1 : Int) (a1 : Int) (a2 : Bool) : Option (Bool) :=
  (ether_odd_Unwrap.f a0 a0_1).bind fun r2 =>
  bif (a2 && (r2 == a1)) then
    some true
  else
    some false

set_option maxRecDepth 100000 in
theorem errors_is_calls (a0 : ByteArray) (a0_1 : Int) (a1 : Int) (a2 : Bool) (r : Bool) (h : errors_is.f a0 a0_1 a1 a2 = some r) : Pure Tryz.prog Glob 109 #[.iface 183 (.agg #[.string a0, .iface 30 (.int .i64 a0_1)]), .iface 30 (.int .i64 a1), .bool a2] (.bool r) := by
  intro w Z hS
  refine calls_of (args := [.iface 183 (.agg #[.string a0, .iface 30 (.int .i64 a0_1)]), .iface 30 (.int .i64 a1), .bool a2]) (L := [(0, .iface 183 (.agg #[.string a0, .iface 30 (.int .i64 a0_1)])), (1, .iface 30 (.int .i64 a1)), (2, .bool a2)]) (N := 54) (S := Sat w Z [] [] Glob) Tryz.func109 rfl rfl (Nat.le_of_ble_eq_true rfl) rfl hS ?_
  have hM := h
  clear h hS
  unfold errors_is.f at hM
  refine WP.seq ?_
  refine WP.run [] [0, 1, 2, 6] (fun _ => [(0, .iface 183 (.agg #[.string a0, .iface 30 (.int .i64 a0_1)])), (1, .iface 30 (.int .i64 a1)), (2, .bool a2), (6, .bool false)]) (fun _ => []) (fun _ => []) (fun _ => by kernel_rfl) (fun _ => ?_)
  refine WP.block ?_
  refine WP.unroll 40 ?_
  refine WP.block ?_
  refine WP.seq ?_
  refine WP.seq ?_
  refine WP.region ?_
  refine WL.run 2 [] [0, 1, 2, 6, 14, 15] (fun _ => [(0, .iface 183 (.agg #[.string a0, .iface 30 (.int .i64 a0_1)])), (1, .iface 30 (.int .i64 a1)), (2, .bool a2), (6, .bool false), (14, .bool a2), (15, .bool a2)]) (fun _ => []) (fun _ => []) (fun _ => by kernel_rfl) (fun _ => ?_)
  refine WL.sub [0, 1, 2, 6, 14, 15] (L' := [(0, .iface 183 (.agg #[.string a0, .iface 30 (.int .i64 a0_1)])), (1, .iface 30 (.int .i64 a1)), (2, .bool a2), (6, .bool false), (14, .bool a2), (15, .bool a2)]) (by kernel_rfl) ?_
  refine WL.both (fun b' => [(0, .iface 183 (.agg #[.string a0, .iface 30 (.int .i64 a0_1)])), (1, .iface 30 (.int .i64 a1)), (2, .bool a2), (6, .bool false), (14, .bool a2), (15, .bool b')]) a2 4 [] [] [0, 1, 2, 6, 14, 15, 19] (fun b' => [(0, .iface 183 (.agg #[.string a0, .iface 30 (.int .i64 a0_1)])), (1, .iface 30 (.int .i64 a1)), (2, .bool a2), (6, .bool false), (14, .bool a2), (15, .bool b'), (19, .bool false)]) [] [] (fun _ => by kernel_rfl) (fun _ => by kernel_rfl) ?_
  refine WP.done ?_
  refine WP.no rfl rfl ?_
  refine WP.skip ?_
  refine WP.seq ?_
  refine WP.seq ?_
  refine WP.region ?_
  refine WL.run 1 [] [0, 1, 2, 6, 14, 15, 19, 21] (fun _ => [(0, .iface 183 (.agg #[.string a0, .iface 30 (.int .i64 a0_1)])), (1, .iface 30 (.int .i64 a1)), (2, .bool a2), (6, .bool false), (14, .bool a2), (15, .bool a2), (19, .bool false), (21, .iface 183 (.agg #[.string a0, .iface 30 (.int .i64 a0_1)]))]) (fun _ => []) (fun _ => []) (fun _ => by kernel_rfl) (fun _ => ?_)
  refine WL.val (fun _ => run_assertLacks (t := 183) (v := .agg #[.string a0, .iface 30 (.int .i64 a0_1)]) (z := .nilIface) (by kernel_rfl) (by kernel_rfl) (by kernel_rfl)) (by kernel_rfl) (by kernel_rfl) rfl ?_
  refine WL.run 5 [] [0, 1, 2, 6, 7, 8, 14, 15, 19, 20, 21, 22, 23, 24] (fun _ => [(0, .iface 183 (.agg #[.string a0, .iface 30 (.int .i64 a0_1)])), (1, .iface 30 (.int .i64 a1)), (2, .bool a2), (6, .bool false), (7, .nilIface), (8, .bool false), (14, .bool a2), (15, .bool a2), (19, .bool false), (20, .tuple #[.nilIface, .bool false]), (21, .iface 183 (.agg #[.string a0, .iface 30 (.int .i64 a0_1)])), (22, .tuple #[.nilIface, .bool false]), (23, .nilIface), (24, .bool false)]) (fun _ => []) (fun _ => []) (fun _ => by kernel_rfl) (fun _ => ?_)
  refine WP.done ?_
  refine WP.seq ?_
  refine WP.run [] [0, 1, 2, 6, 7, 8, 14, 15, 19, 20, 21, 22, 23, 24, 25, 26, 27, 28, 29, 30] (fun _ => [(0, .iface 183 (.agg #[.string a0, .iface 30 (.int .i64 a0_1)])), (1, .iface 30 (.int .i64 a1)), (2, .bool a2), (6, .bool false), (7, .nilIface), (8, .bool false), (14, .bool a2), (15, .bool a2), (19, .bool false), (20, .tuple #[.nilIface, .bool false]), (21, .iface 183 (.agg #[.string a0, .iface 30 (.int .i64 a0_1)])), (22, .tuple #[.nilIface, .bool false]), (23, .nilIface), (24, .bool false), (25, .bool false), (26, .bool false), (27, .tuple #[]), (28, .tuple #[]), (29, .tuple #[]), (30, .bool false)]) (fun _ => []) (fun _ => []) (fun _ => by kernel_rfl) (fun _ => ?_)
  refine WP.no rfl rfl ?_
  refine WP.skip ?_
  refine WP.seq ?_
  refine WP.run [] [0, 1, 2, 6, 7, 8, 14, 15, 19, 20, 21, 22, 23, 24, 25, 26, 27, 28, 29, 30, 31] (fun _ => [(0, .iface 183 (.agg #[.string a0, .iface 30 (.int .i64 a0_1)])), (1, .iface 30 (.int .i64 a1)), (2, .bool a2), (6, .bool false), (7, .nilIface), (8, .bool false), (14, .bool a2), (15, .bool a2), (19, .bool false), (20, .tuple #[.nilIface, .bool false]), (21, .iface 183 (.agg #[.string a0, .iface 30 (.int .i64 a0_1)])), (22, .tuple #[.nilIface, .bool false]), (23, .nilIface), (24, .bool false), (25, .bool false), (26, .bool false), (27, .tuple #[]), (28, .tuple #[]), (29, .tuple #[]), (30, .bool false), (31, .iface 183 (.agg #[.string a0, .iface 30 (.int .i64 a0_1)]))]) (fun _ => []) (fun _ => []) (fun _ => by kernel_rfl) (fun _ => ?_)
  refine WP.block ?_
  refine WP.seq ?_
  refine WP.region ?_
  refine WL.val (fun _ => run_assertHas (t := 183) (v := .agg #[.string a0, .iface 30 (.int .i64 a0_1)]) (by kernel_rfl) (by kernel_rfl)) (by kernel_rfl) (by kernel_rfl) rfl ?_
  refine WL.run 2 [] [0, 1, 2, 6, 7, 8, 14, 15, 19, 20, 21, 22, 23, 24, 25, 26, 27, 28, 29, 30, 31, 32, 33, 34] (fun _ => [(0, .iface 183 (.agg #[.string a0, .iface 30 (.int .i64 a0_1)])), (1, .iface 30 (.int .i64 a1)), (2, .bool a2), (6, .bool false), (7, .nilIface), (8, .bool false), (14, .bool a2), (15, .bool a2), (19, .bool false), (20, .tuple #[.nilIface, .bool false]), (21, .iface 183 (.agg #[.string a0, .iface 30 (.int .i64 a0_1)])), (22, .tuple #[.nilIface, .bool false]), (23, .nilIface), (24, .bool false), (25, .bool false), (26, .bool false), (27, .tuple #[]), (28, .tuple #[]), (29, .tuple #[]), (30, .bool false), (31, .iface 183 (.agg #[.string a0, .iface 30 (.int .i64 a0_1)])), (32, .tuple #[.iface 183 (.agg #[.string a0, .iface 30 (.int .i64 a0_1)]), .bool true]), (33, .bool true), (34, .iface 183 (.agg #[.string a0, .iface 30 (.int .i64 a0_1)]))]) (fun _ => []) (fun _ => []) (fun _ => by kernel_rfl) (fun _ => ?_)
  refine WP.done ?_
  refine WP.yes rfl rfl ?_
  refine WP.seq ?_
  refine WP.run [] [0, 1, 2, 6, 7, 8, 9, 14, 15, 19, 20, 21, 22, 23, 24, 25, 26, 27, 28, 29, 30, 31, 32, 33, 34] (fun _ => [(0, .iface 183 (.agg #[.string a0, .iface 30 (.int .i64 a0_1)])), (1, .iface 30 (.int .i64 a1)), (2, .bool a2), (6, .bool false), (7, .nilIface), (8, .bool false), (9, .iface 183 (.agg #[.string a0, .iface 30 (.int .i64 a0_1)])), (14, .bool a2), (15, .bool a2), (19, .bool false), (20, .tuple #[.nilIface, .bool false]), (21, .iface 183 (.agg #[.string a0, .iface 30 (.int .i64 a0_1)])), (22, .tuple #[.nilIface, .bool false]), (23, .nilIface), (24, .bool false), (25, .bool false), (26, .bool false), (27, .tuple #[]), (28, .tuple #[]), (29, .tuple #[]), (30, .bool false), (31, .iface 183 (.agg #[.string a0, .iface 30 (.int .i64 a0_1)])), (32, .tuple #[.iface 183 (.agg #[.string a0, .iface 30 (.int .i64 a0_1)]), .bool true]), (33, .bool true), (34, .iface 183 (.agg #[.string a0, .iface 30 (.int .i64 a0_1)]))]) (fun _ => []) (fun _ => []) (fun _ => by kernel_rfl) (fun _ => ?_)
  refine WP.seq ?_
  refine WP.region ?_
  refine WL.run 1 [] [0, 1, 2, 6, 7, 8, 9, 14, 15, 19, 20, 21, 22, 23, 24, 25, 26, 27, 28, 29, 30, 31, 32, 33, 34, 35] (fun _ => [(0, .iface 183 (.agg #[.string a0, .iface 30 (.int .i64 a0_1)])), (1, .iface 30 (.int .i64 a1)), (2, .bool a2), (6, .bool false), (7, .nilIface), (8, .bool false), (9, .iface 183 (.agg #[.string a0, .iface 30 (.int .i64 a0_1)])), (14, .bool a2), (15, .bool a2), (19, .bool false), (20, .tuple #[.nilIface, .bool false]), (21, .iface 183 (.agg #[.string a0, .iface 30 (.int .i64 a0_1)])), (22, .tuple #[.nilIface, .bool false]), (23, .nilIface), (24, .bool false), (25, .bool false), (26, .bool false), (27, .tuple #[]), (28, .tuple #[]), (29, .tuple #[]), (30, .bool false), (31, .iface 183 (.agg #[.string a0, .iface 30 (.int .i64 a0_1)])), (32, .tuple #[.iface 183 (.agg #[.string a0, .iface 30 (.int .i64 a0_1)]), .bool true]), (33, .bool true), (34, .iface 183 (.agg #[.string a0, .iface 30 (.int .i64 a0_1)])), (35, .iface 183 (.agg #[.string a0, .iface 30 (.int .i64 a0_1)]))]) (fun _ => []) (fun _ => []) (fun _ => by kernel_rfl) (fun _ => ?_)
  obtain ⟨r2, h3, hM⟩ := bind_some hM
  refine WL.callP [] [] (ether_odd_Unwrap_calls a0 a0_1 _ h3) (fun _ h => h) (by kernel_rfl) (by kernel_rfl) rfl ?_
  refine WL.run 1 [] [0, 1, 2, 6, 7, 8, 9, 14, 15, 19, 20, 21, 22, 23, 24, 25, 26, 27, 28, 29, 30, 31, 32, 33, 34, 35, 36] (fun _ => [(0, .iface 30 (.int .i64 r2)), (1, .iface 30 (.int .i64 a1)), (2, .bool a2), (6, .bool false), (7, .nilIface), (8, .bool false), (9, .iface 183 (.agg #[.string a0, .iface 30 (.int .i64 a0_1)])), (14, .bool a2), (15, .bool a2), (19, .bool false), (20, .tuple #[.nilIface, .bool false]), (21, .iface 183 (.agg #[.string a0, .iface 30 (.int .i64 a0_1)])), (22, .tuple #[.nilIface, .bool false]), (23, .nilIface), (24, .bool false), (25, .bool false), (26, .bool false), (27, .tuple #[]), (28, .tuple #[]), (29, .tuple #[]), (30, .bool false), (31, .iface 183 (.agg #[.string a0, .iface 30 (.int .i64 a0_1)])), (32, .tuple #[.iface 183 (.agg #[.string a0, .iface 30 (.int .i64 a0_1)]), .bool true]), (33, .bool true), (34, .iface 183 (.agg #[.string a0, .iface 30 (.int .i64 a0_1)])), (35, .iface 183 (.agg #[.string a0, .iface 30 (.int .i64 a0_1)])), (36, .iface 30 (.int .i64 r2))]) (fun _ => []) (fun _ => []) (fun _ => by kernel_rfl) (fun _ => ?_)
  refine WP.done ?_
  refine WP.seq ?_
  refine WP.run [] [0, 1, 2, 6, 7, 8, 9, 14, 15, 19, 20, 21, 22, 23, 24, 25, 26, 27, 28, 29, 30, 31, 32, 33, 34, 35, 36, 37, 38] (fun _ => [(0, .iface 30 (.int .i64 r2)), (1, .iface 30 (.int .i64 a1)), (2, .bool a2), (6, .bool false), (7, .nilIface), (8, .bool false), (9, .iface 183 (.agg #[.string a0, .iface 30 (.int .i64 a0_1)])), (14, .bool a2), (15, .bool a2), (19, .bool false), (20, .tuple #[.nilIface, .bool false]), (21, .iface 183 (.agg #[.string a0, .iface 30 (.int .i64 a0_1)])), (22, .tuple #[.nilIface, .bool false]), (23, .nilIface), (24, .bool false), (25, .bool false), (26, .bool false), (27, .tuple #[]), (28, .tuple #[]), (29, .tuple #[]), (30, .bool false), (31, .iface 183 (.agg #[.string a0, .iface 30 (.int .i64 a0_1)])), (32, .tuple #[.iface 183 (.agg #[.string a0, .iface 30 (.int .i64 a0_1)]), .bool true]), (33, .bool true), (34, .iface 183 (.agg #[.string a0, .iface 30 (.int .i64 a0_1)])), (35, .iface 183 (.agg #[.string a0, .iface 30 (.int .i64 a0_1)])), (36, .iface 30 (.int .i64 r2)), (37, .iface 30 (.int .i64 r2)), (38, .bool false)]) (fun _ => []) (fun _ => []) (fun _ => by kernel_rfl) (fun _ => ?_)
  refine WP.no rfl rfl ?_
  refine WP.skip ?_
  refine WP.leave ?_
  refine WP.leave ?_
  refine WP.round ?_
  refine WP.block ?_
  refine WP.seq ?_
  refine WP.seq ?_
  refine WP.region ?_
  refine WL.run 2 [] [0, 1, 2, 6, 7, 8, 9, 14, 15, 19, 20, 21, 22, 23, 24, 25, 26, 27, 28, 29, 30, 31, 32, 33, 34, 35, 36, 37, 38] (fun _ => [(0, .iface 30 (.int .i64 r2)), (1, .iface 30 (.int .i64 a1)), (2, .bool a2), (6, .bool false), (7, .nilIface), (8, .bool false), (9, .iface 183 (.agg #[.string a0, .iface 30 (.int .i64 a0_1)])), (14, .bool a2), (15, .bool a2), (19, .bool false), (20, .tuple #[.nilIface, .bool false]), (21, .iface 183 (.agg #[.string a0, .iface 30 (.int .i64 a0_1)])), (22, .tuple #[.nilIface, .bool false]), (23, .nilIface), (24, .bool false), (25, .bool false), (26, .bool false), (27, .tuple #[]), (28, .tuple #[]), (29, .tuple #[]), (30, .bool false), (31, .iface 183 (.agg #[.string a0, .iface 30 (.int .i64 a0_1)])), (32, .tuple #[.iface 183 (.agg #[.string a0, .iface 30 (.int .i64 a0_1)]), .bool true]), (33, .bool true), (34, .iface 183 (.agg #[.string a0, .iface 30 (.int .i64 a0_1)])), (35, .iface 183 (.agg #[.string a0, .iface 30 (.int .i64 a0_1)])), (36, .iface 30 (.int .i64 r2)), (37, .iface 30 (.int .i64 r2)), (38, .bool false)]) (fun _ => []) (fun _ => []) (fun _ => by kernel_rfl) (fun _ => ?_)
  refine WL.sub [0, 1, 2, 6, 7, 8, 9, 14, 15, 19, 20, 21, 22, 23, 24, 25, 26, 27, 28, 29, 30, 31, 32, 33, 34, 35, 36, 37, 38] (L' := [(0, .iface 30 (.int .i64 r2)), (1, .iface 30 (.int .i64 a1)), (2, .bool a2), (6, .bool false), (7, .nilIface), (8, .bool false), (9, .iface 183 (.agg #[.string a0, .iface 30 (.int .i64 a0_1)])), (14, .bool a2), (15, .bool a2), (19, .bool false), (20, .tuple #[.nilIface, .bool false]), (21, .iface 183 (.agg #[.string a0, .iface 30 (.int .i64 a0_1)])), (22, .tuple #[.nilIface, .bool false]), (23, .nilIface), (24, .bool false), (25, .bool false), (26, .bool false), (27, .tuple #[]), (28, .tuple #[]), (29, .tuple #[]), (30, .bool false), (31, .iface 183 (.agg #[.string a0, .iface 30 (.int .i64 a0_1)])), (32, .tuple #[.iface 183 (.agg #[.string a0, .iface 30 (.int .i64 a0_1)]), .bool true]), (33, .bool true), (34, .iface 183 (.agg #[.string a0, .iface 30 (.int .i64 a0_1)])), (35, .iface 183 (.agg #[.string a0, .iface 30 (.int .i64 a0_1)])), (36, .iface 30 (.int .i64 r2)), (37, .iface 30 (.int .i64 r2)), (38, .bool false)]) (by kernel_rfl) ?_
  refine WL.both (fun b' => [(0, .iface 30 (.int .i64 r2)), (1, .iface 30 (.int .i64 a1)), (2, .bool a2), (6, .bool false), (7, .nilIface), (8, .bool false), (9, .iface 183 (.agg #[.string a0, .iface 30 (.int .i64 a0_1)])), (14, .bool a2), (15, .bool b'), (19, .bool false), (20, .tuple #[.nilIface, .bool false]), (21, .iface 183 (.agg #[.string a0, .iface 30 (.int .i64 a0_1)])), (22, .tuple #[.nilIface, .bool false]), (23, .nilIface), (24, .bool false), (25, .bool false), (26, .bool false), (27, .tuple #[]), (28, .tuple #[]), (29, .tuple #[]), (30, .bool false), (31, .iface 183 (.agg #[.string a0, .iface 30 (.int .i64 a0_1)])), (32, .tuple #[.iface 183 (.agg #[.string a0, .iface 30 (.int .i64 a0_1)]), .bool true]), (33, .bool true), (34, .iface 183 (.agg #[.string a0, .iface 30 (.int .i64 a0_1)])), (35, .iface 183 (.agg #[.string a0, .iface 30 (.int .i64 a0_1)])), (36, .iface 30 (.int .i64 r2)), (37, .iface 30 (.int .i64 r2)), (38, .bool false)]) a2 4 [] [] [0, 1, 2, 6, 7, 8, 9, 14, 15, 19, 20, 21, 22, 23, 24, 25, 26, 27, 28, 29, 30, 31, 32, 33, 34, 35, 36, 37, 38] (fun b' => [(0, .iface 30 (.int .i64 r2)), (1, .iface 30 (.int .i64 a1)), (2, .bool a2), (6, .bool false), (7, .nilIface), (8, .bool false), (9, .iface 183 (.agg #[.string a0, .iface 30 (.int .i64 a0_1)])), (14, .bool a2), (15, .bool b'), (19, .bool (b' && (r2 == a1))), (20, .tuple #[.nilIface, .bool false]), (21, .iface 183 (.agg #[.string a0, .iface 30 (.int .i64 a0_1)])), (22, .tuple #[.nilIface, .bool false]), (23, .nilIface), (24, .bool false), (25, .bool false), (26, .bool false), (27, .tuple #[]), (28, .tuple #[]), (29, .tuple #[]), (30, .bool false), (31, .iface 183 (.agg #[.string a0, .iface 30 (.int .i64 a0_1)])), (32, .tuple #[.iface 183 (.agg #[.string a0, .iface 30 (.int .i64 a0_1)]), .bool true]), (33, .bool true), (34, .iface 183 (.agg #[.string a0, .iface 30 (.int .i64 a0_1)])), (35, .iface 183 (.agg #[.string a0, .iface 30 (.int .i64 a0_1)])), (36, .iface 30 (.int .i64 r2)), (37, .iface 30 (.int .i64 r2)), (38, .bool false)]) [] [] (fun _ => by kernel_rfl) (fun _ => by kernel_rfl) ?_
  refine WP.done ?_
  refine WP.cond (a2 && (r2 == a1)) rfl rfl (fun c4 => ?_) (fun c4 => ?_)
  · replace hM := cond_t hM c4
    refine WP.seq ?_
    refine WP.run [] [0, 1, 2, 6, 7, 8, 9, 14, 15, 19, 20, 21, 22, 23, 24, 25, 26, 27, 28, 29, 30, 31, 32, 33, 34, 35, 36, 37, 38] (fun _ => [(0, .iface 30 (.int .i64 r2)), (1, .iface 30 (.int .i64 a1)), (2, .bool a2), (6, .bool true), (7, .nilIface), (8, .bool false), (9, .iface 183 (.agg #[.string a0, .iface 30 (.int .i64 a0_1)])), (14, .bool a2), (15, .bool a2), (19, .bool (a2 && (r2 == a1))), (20, .tuple #[.nilIface, .bool false]), (21, .iface 183 (.agg #[.string a0, .iface 30 (.int .i64 a0_1)])), (22, .tuple #[.nilIface, .bool false]), (23, .nilIface), (24, .bool false), (25, .bool false), (26, .bool false), (27, .tuple #[]), (28, .tuple #[]), (29, .tuple #[]), (30, .bool false), (31, .iface 183 (.agg #[.string a0, .iface 30 (.int .i64 a0_1)])), (32, .tuple #[.iface 183 (.agg #[.string a0, .iface 30 (.int .i64 a0_1)]), .bool true]), (33, .bool true), (34, .iface 183 (.agg #[.string a0, .iface 30 (.int .i64 a0_1)])), (35, .iface 183 (.agg #[.string a0, .iface 30 (.int .i64 a0_1)])), (36, .iface 30 (.int .i64 r2)), (37, .iface 30 (.int .i64 r2)), (38, .bool false)]) (fun _ => []) (fun _ => []) (fun _ => by kernel_rfl) (fun _ => ?_)
    obtain rfl := Option.some.inj hM
    exact WP.ret [] [] (.bool true) (by kernel_rfl) (fun w' hw => ⟨rfl, hw.pick [] rfl⟩)
  · replace hM := cond_f hM c4
    refine WP.skip ?_
    refine WP.seq ?_
    refine WP.seq ?_
    refine WP.region ?_
    refine WL.run 1 [] [0, 1, 2, 6, 7, 8, 9, 14, 15, 19, 20, 21, 22, 23, 24, 25, 26, 27, 28, 29, 30, 31, 32, 33, 34, 35, 36, 37, 38] (fun _ => [(0, .iface 30 (.int .i64 r2)), (1, .iface 30 (.int .i64 a1)), (2, .bool a2), (6, .bool false), (7, .nilIface), (8, .bool false), (9, .iface 183 (.agg #[.string a0, .iface 30 (.int .i64 a0_1)])), (14, .bool a2), (15, .bool a2), (19, .bool (a2 && (r2 == a1))), (20, .tuple #[.nilIface, .bool false]), (21, .iface 30 (.int .i64 r2)), (22, .tuple #[.nilIface, .bool false]), (23, .nilIface), (24, .bool false), (25, .bool false), (26, .bool false), (27, .tuple #[]), (28, .tuple #[]), (29, .tuple #[]), (30, .bool false), (31, .iface 183 (.agg #[.string a0, .iface 30 (.int .i64 a0_1)])), (32, .tuple #[.iface 183 (.agg #[.string a0, .iface 30 (.int .i64 a0_1)]), .bool true]), (33, .bool true), (34, .iface 183 (.agg #[.string a0, .iface 30 (.int .i64 a0_1)])), (35, .iface 183 (.agg #[.string a0, .iface 30 (.int .i64 a0_1)])), (36, .iface 30 (.int .i64 r2)), (37, .iface 30 (.int .i64 r2)), (38, .bool false)]) (fun _ => []) (fun _ => []) (fun _ => by kernel_rfl) (fun _ => ?_)
    refine WL.val (fun _ => run_assertLacks (t := 30) (v := .int .i64 r2) (z := .nilIface) (by kernel_rfl) (by kernel_rfl) (by kernel_rfl)) (by kernel_rfl) (by kernel_rfl) rfl ?_
    refine WL.run 5 [] [0, 1, 2, 6, 7, 8, 9, 14, 15, 19, 20, 21, 22, 23, 24, 25, 26, 27, 28, 29, 30, 31, 32, 33, 34, 35, 36, 37, 38] (fun _ => [(0, .iface 30 (.int .i64 r2)), (1, .iface 30 (.int .i64 a1)), (2, .bool a2), (6, .bool false), (7, .nilIface), (8, .bool false), (9, .iface 183 (.agg #[.string a0, .iface 30 (.int .i64 a0_1)])), (14, .bool a2), (15, .bool a2), (19, .bool (a2 && (r2 == a1))), (20, .tuple #[.nilIface, .bool false]), (21, .iface 30 (.int .i64 r2)), (22, .tuple #[.nilIface, .bool false]), (23, .nilIface), (24, .bool false), (25, .bool false), (26, .bool false), (27, .tuple #[]), (28, .tuple #[]), (29, .tuple #[]), (30, .bool false), (31, .iface 183 (.agg #[.string a0, .iface 30 (.int .i64 a0_1)])), (32, .tuple #[.iface 183 (.agg #[.string a0, .iface 30 (.int .i64 a0_1)]), .bool true]), (33, .bool true), (34, .iface 183 (.agg #[.string a0, .iface 30 (.int .i64 a0_1)])), (35, .iface 183 (.agg #[.string a0, .iface 30 (.int .i64 a0_1)])), (36, .iface 30 (.int .i64 r2)), (37, .iface 30 (.int .i64 r2)), (38, .bool false)]) (fun _ => []) (fun _ => []) (fun _ => by kernel_rfl) (fun _ => ?_)
    refine WP.done ?_
    refine WP.seq ?_
    refine WP.run [] [0, 1, 2, 6, 7, 8, 9, 14, 15, 19, 20, 21, 22, 23, 24, 25, 26, 27, 28, 29, 30, 31, 32, 33, 34, 35, 36, 37, 38] (fun _ => [(0, .iface 30 (.int .i64 r2)), (1, .iface 30 (.int .i64 a1)), (2, .bool a2), (6, .bool false), (7, .nilIface), (8, .bool false), (9, .iface 183 (.agg #[.string a0, .iface 30 (.int .i64 a0_1)])), (14, .bool a2), (15, .bool a2), (19, .bool (a2 && (r2 == a1))), (20, .tuple #[.nilIface, .bool false]), (21, .iface 30 (.int .i64 r2)), (22, .tuple #[.nilIface, .bool false]), (23, .nilIface), (24, .bool false), (25, .bool false), (26, .bool false), (27, .tuple #[]), (28, .tuple #[]), (29, .tuple #[]), (30, .bool false), (31, .iface 183 (.agg #[.string a0, .iface 30 (.int .i64 a0_1)])), (32, .tuple #[.iface 183 (.agg #[.string a0, .iface 30 (.int .i64 a0_1)]), .bool true]), (33, .bool true), (34, .iface 183 (.agg #[.string a0, .iface 30 (.int .i64 a0_1)])), (35, .iface 183 (.agg #[.string a0, .iface 30 (.int .i64 a0_1)])), (36, .iface 30 (.int .i64 r2)), (37, .iface 30 (.int .i64 r2)), (38, .bool false)]) (fun _ => []) (fun _ => []) (fun _ => by kernel_rfl) (fun _ => ?_)
    refine WP.no rfl rfl ?_
    refine WP.skip ?_
    refine WP.seq ?_
    refine WP.run [] [0, 1, 2, 6, 7, 8, 9, 14, 15, 19, 20, 21, 22, 23, 24, 25, 26, 27, 28, 29, 30, 31, 32, 33, 34, 35, 36, 37, 38] (fun _ => [(0, .iface 30 (.int .i64 r2)), (1, .iface 30 (.int .i64 a1)), (2, .bool a2), (6, .bool false), (7, .nilIface), (8, .bool false), (9, .iface 183 (.agg #[.string a0, .iface 30 (.int .i64 a0_1)])), (14, .bool a2), (15, .bool a2), (19, .bool (a2 && (r2 == a1))), (20, .tuple #[.nilIface, .bool false]), (21, .iface 30 (.int .i64 r2)), (22, .tuple #[.nilIface, .bool false]), (23, .nilIface), (24, .bool false), (25, .bool false), (26, .bool false), (27, .tuple #[]), (28, .tuple #[]), (29, .tuple #[]), (30, .bool false), (31, .iface 30 (.int .i64 r2)), (32, .tuple #[.iface 183 (.agg #[.string a0, .iface 30 (.int .i64 a0_1)]), .bool true]), (33, .bool true), (34, .iface 183 (.agg #[.string a0, .iface 30 (.int .i64 a0_1)])), (35, .iface 183 (.agg #[.string a0, .iface 30 (.int .i64 a0_1)])), (36, .iface 30 (.int .i64 r2)), (37, .iface 30 (.int .i64 r2)), (38, .bool false)]) (fun _ => []) (fun _ => []) (fun _ => by kernel_rfl) (fun _ => ?_)
    refine WP.block ?_
    refine WP.seq ?_
    refine WP.region ?_
    refine WL.val (fun _ => run_assertLacks (t := 30) (v := .int .i64 r2) (z := .nilIface) (by kernel_rfl) (by kernel_rfl) (by kernel_rfl)) (by kernel_rfl) (by kernel_rfl) rfl ?_
    refine WL.run 2 [] [0, 1, 2, 6, 7, 8, 9, 14, 15, 19, 20, 21, 22, 23, 24, 25, 26, 27, 28, 29, 30, 31, 32, 33, 34, 35, 36, 37, 38] (fun _ => [(0, .iface 30 (.int .i64 r2)), (1, .iface 30 (.int .i64 a1)), (2, .bool a2), (6, .bool false), (7, .nilIface), (8, .bool false), (9, .iface 183 (.agg #[.string a0, .iface 30 (.int .i64 a0_1)])), (14, .bool a2), (15, .bool a2), (19, .bool (a2 && (r2 == a1))), (20, .tuple #[.nilIface, .bool false]), (21, .iface 30 (.int .i64 r2)), (22, .tuple #[.nilIface, .bool false]), (23, .nilIface), (24, .bool false), (25, .bool false), (26, .bool false), (27, .tuple #[]), (28, .tuple #[]), (29, .tuple #[]), (30, .bool false), (31, .iface 30 (.int .i64 r2)), (32, .tuple #[.nilIface, .bool false]), (33, .bool false), (34, .nilIface), (35, .iface 183 (.agg #[.string a0, .iface 30 (.int .i64 a0_1)])), (36, .iface 30 (.int .i64 r2)), (37, .iface 30 (.int .i64 r2)), (38, .bool false)]) (fun _ => []) (fun _ => []) (fun _ => by kernel_rfl) (fun _ => ?_)
    refine WP.done ?_
    refine WP.no rfl rfl ?_
    refine WP.seq ?_
    refine WP.region ?_
    refine WL.val (fun _ => run_assertLacks (t := 30) (v := .int .i64 r2) (z := .nilIface) (by kernel_rfl) (by kernel_rfl) (by kernel_rfl)) (by kernel_rfl) (by kernel_rfl) rfl ?_
    refine WL.run 2 [] [0, 1, 2, 6, 7, 8, 9, 14, 15, 19, 20, 21, 22, 23, 24, 25, 26, 27, 28, 29, 30, 31, 32, 33, 34, 35, 36, 37, 38, 39, 40, 41] (fun _ => [(0, .iface 30 (.int .i64 r2)), (1, .iface 30 (.int .i64 a1)), (2, .bool a2), (6, .bool false), (7, .nilIface), (8, .bool false), (9, .iface 183 (.agg #[.string a0, .iface 30 (.int .i64 a0_1)])), (14, .bool a2), (15, .bool a2), (19, .bool (a2 && (r2 == a1))), (20, .tuple #[.nilIface, .bool false]), (21, .iface 30 (.int .i64 r2)), (22, .tuple #[.nilIface, .bool false]), (23, .nilIface), (24, .bool false), (25, .bool false), (26, .bool false), (27, .tuple #[]), (28, .tuple #[]), (29, .tuple #[]), (30, .bool false), (31, .iface 30 (.int .i64 r2)), (32, .tuple #[.nilIface, .bool false]), (33, .bool false), (34, .nilIface), (35, .iface 183 (.agg #[.string a0, .iface 30 (.int .i64 a0_1)])), (36, .iface 30 (.int .i64 r2)), (37, .iface 30 (.int .i64 r2)), (38, .bool false), (39, .tuple #[.nilIface, .bool false]), (40, .bool false), (41, .nilIface)]) (fun _ => []) (fun _ => []) (fun _ => by kernel_rfl) (fun _ => ?_)
    refine WP.done ?_
    refine WP.no rfl rfl ?_
    refine WP.seq ?_
    refine WP.run [] [0, 1, 2, 6, 7, 8, 9, 14, 15, 19, 20, 21, 22, 23, 24, 25, 26, 27, 28, 29, 30, 31, 32, 33, 34, 35, 36, 37, 38, 39, 40, 41] (fun _ => [(0, .iface 30 (.int .i64 r2)), (1, .iface 30 (.int .i64 a1)), (2, .bool a2), (6, .bool false), (7, .nilIface), (8, .bool false), (9, .iface 183 (.agg #[.string a0, .iface 30 (.int .i64 a0_1)])), (14, .bool a2), (15, .bool a2), (19, .bool (a2 && (r2 == a1))), (20, .tuple #[.nilIface, .bool false]), (21, .iface 30 (.int .i64 r2)), (22, .tuple #[.nilIface, .bool false]), (23, .nilIface), (24, .bool false), (25, .bool false), (26, .bool false), (27, .tuple #[]), (28, .tuple #[]), (29, .tuple #[]), (30, .bool false), (31, .iface 30 (.int .i64 r2)), (32, .tuple #[.nilIface, .bool false]), (33, .bool false), (34, .nilIface), (35, .iface 183 (.agg #[.string a0, .iface 30 (.int .i64 a0_1)])), (36, .iface 30 (.int .i64 r2)), (37, .iface 30 (.int .i64 r2)), (38, .bool false), (39, .tuple #[.nilIface, .bool false]), (40, .bool false), (41, .nilIface)]) (fun _ => []) (fun _ => []) (fun _ => by kernel_rfl) (fun _ => ?_)
    refine WP.seq ?_
    refine WP.run [] [0, 1, 2, 6, 7, 8, 9, 14, 15, 19, 20, 21, 22, 23, 24, 25, 26, 27, 28, 29, 30, 31, 32, 33, 34, 35, 36, 37, 38, 39, 40, 41] (fun _ => [(0, .iface 30 (.int .i64 r2)), (1, .iface 30 (.int .i64 a1)), (2, .bool a2), (6, .bool false), (7, .nilIface), (8, .bool false), (9, .iface 183 (.agg #[.string a0, .iface 30 (.int .i64 a0_1)])), (14, .bool a2), (15, .bool a2), (19, .bool (a2 && (r2 == a1))), (20, .tuple #[.nilIface, .bool false]), (21, .iface 30 (.int .i64 r2)), (22, .tuple #[.nilIface, .bool false]), (23, .nilIface), (24, .bool false), (25, .bool false), (26, .bool false), (27, .tuple #[]), (28, .tuple #[]), (29, .tuple #[]), (30, .bool false), (31, .iface 30 (.int .i64 r2)), (32, .tuple #[.nilIface, .bool false]), (33, .bool false), (34, .nilIface), (35, .iface 183 (.agg #[.string a0, .iface 30 (.int .i64 a0_1)])), (36, .iface 30 (.int .i64 r2)), (37, .iface 30 (.int .i64 r2)), (38, .bool false), (39, .tuple #[.nilIface, .bool false]), (40, .bool false), (41, .nilIface)]) (fun _ => []) (fun _ => []) (fun _ => by kernel_rfl) (fun _ => ?_)
    obtain rfl := Option.some.inj hM
    exact WP.ret [] [] (.bool false) (by kernel_rfl) (fun w' hw => ⟨rfl, hw.pick [] rfl⟩)

end Go.Proofs.YtbodofjnfmjbpaaGreatDoor

namespace Go.Proofs.YtbodofjnfmjbpaaGreatDoor
open Go Eng
set_option linter.unusedVariables false
set_option linter.unusedSimpArgs false

/-! ### errors.Is: function 83 -/
def errors_Is_1.f (a0 : ByteArray) (a0_1 : Int) (a1 : Int) : Option (Bool) :=
  (errors_is.f a0 a0_1 a1 true).bind fun r1 =>
  some r1

set_option maxRecDepth 100000 in
theorem errors_Is_1_calls (a0 : ByteArray) (a0_1 : Int) (a1 : Int) (r : Bool) (h : errors_Is_1.f a0 a0_1 a1 = some r) : Pure Tryz.prog Glob 83 #[.iface 183 (.agg #[.string a0, .iface 30 (.int .i64 a0_1)]), .iface 30 (.int .i64 a1)] (.bool r) := by
  intro w Z hS
  refine calls_of (args := [.iface 183 (.agg #[.string a0, .iface 30 (.int .i64 a0_1)]), .iface 30 (.int .i64 a1)]) (L := [(0, .iface 183 (.agg #[.string a0, .iface 30 (.int .i64 a0_1)])), (1, .iface 30 (.int .i64 a1))]) (N := 22) (S := Sat w Z [] [] Glob) Tryz.func83 rfl rfl (Nat.le_of_ble_eq_true rfl) rfl hS ?_
  have hM := h
  clear h hS
  unfold errors_Is_1.f at hM
  refine WP.seq ?_
  refine WP.run [] [0, 1, 4] (fun _ => [(0, .iface 183 (.agg #[.string a0, .iface 30 (.int .i64 a0_1)])), (1, .iface 30 (.int .i64 a1)), (4, .bool false)]) (fun _ => []) (fun _ => []) (fun _ => by kernel_rfl) (fun _ => ?_)
  refine WP.seq ?_
  refine WP.seq ?_
  refine WP.run [] [0, 1, 4, 11] (fun _ => [(0, .iface 183 (.agg #[.string a0, .iface 30 (.int .i64 a0_1)])), (1, .iface 30 (.int .i64 a1)), (4, .bool false), (11, .bool false)]) (fun _ => []) (fun _ => []) (fun _ => by kernel_rfl) (fun _ => ?_)
  refine WP.no rfl rfl ?_
  refine WP.skip ?_
  refine WP.seq ?_
  refine WP.run [] [0, 1, 4, 5] (fun _ => [(0, .iface 183 (.agg #[.string a0, .iface 30 (.int .i64 a0_1)])), (1, .iface 30 (.int .i64 a1)), (4, .bool false), (5, .bool true)]) (fun _ => []) (fun _ => []) (fun _ => by kernel_rfl) (fun _ => ?_)
  refine WP.seq ?_
  refine WP.region ?_
  refine WL.run 3 [] [4, 18, 19, 20] (fun _ => [(4, .bool false), (18, .iface 183 (.agg #[.string a0, .iface 30 (.int .i64 a0_1)])), (19, .iface 30 (.int .i64 a1)), (20, .bool true)]) (fun _ => []) (fun _ => []) (fun _ => by kernel_rfl) (fun _ => ?_)
  obtain ⟨r1, h2, hM⟩ := bind_some hM
  refine WL.callP [] [] (errors_is_calls a0 a0_1 a1 true _ h2) (fun _ h => h) (by kernel_rfl) (by kernel_rfl) rfl ?_
  refine WL.run 1 [] [4] (fun _ => [(4, .bool r1)]) (fun _ => []) (fun _ => []) (fun _ => by kernel_rfl) (fun _ => ?_)
  refine WP.done ?_
  obtain rfl := Option.some.inj hM
  exact WP.ret [] [] (.bool r1) (by kernel_rfl) (fun w' hw => ⟨rfl, hw.pick [] rfl⟩)

end Go.Proofs.YtbodofjnfmjbpaaGreatDoor

namespace Go.Proofs.YtbodofjnfmjbpaaGreatDoor
open Go Eng
set_option linter.unusedVariables false
set_option linter.unusedSimpArgs false

/-! ### errors.as: function 62 -/
def errors_as_1.f (a0 : ByteArray) (a0_1 : Int) (a1 : Int) : Option (Bool × Int) :=
  (ether_odd_Unwrap.f a0 a0_1).bind fun r3 =>
  some (true, r3)

set_option maxRecDepth 100000 in
theorem errors_as_1_calls (b_0 : Nat) (b_1 : Nat) (a0 : ByteArray) (a0_1 : Int) (a1 : Int) (r : Bool × Int) (h : errors_as_1.f a0 a0_1 a1 = some r) : Does Tryz.prog 62 #[.iface 183 (.agg #[.string a0, .iface 30 (.int .i64 a0_1)]), .iface 175 (.pointer (some ⟨b_0, 0, none⟩)), .agg #[.pointer (some ⟨2, 175, none⟩), .pointer (some ⟨b_1, 0, none⟩), .int .u64 150], .iface 148 (.agg #[.pointer (some ⟨2, 30, none⟩)])] [(b_0, .cells #[.int .i64 a1] 30 (0, 0)), (b_1, .cells #[.pointer (some ⟨b_0, 0, none⟩)] 175 (0, 0))] Glob (fun _ : Unit => .bool r.1) (fun _ => [(b_0, .cells #[.int .i64 r.2] 30 (0, 0)), (b_1, .cells #[.pointer (some ⟨b_0, 0, none⟩)] 175 (0, 0))]) (fun _ => []) (fun _ => Glob) := by
  intro w Z hS
  refine calls_of (args := [.iface 183 (.agg #[.string a0, .iface 30 (.int .i64 a0_1)]), .iface 175 (.pointer (some ⟨b_0, 0, none⟩)), .agg #[.pointer (some ⟨2, 175, none⟩), .pointer (some ⟨b_1, 0, none⟩), .int .u64 150], .iface 148 (.agg #[.pointer (some ⟨2, 30, none⟩)])]) (L := [(0, .iface 183 (.agg #[.string a0, .iface 30 (.int .i64 a0_1)])), (1, .iface 175 (.pointer (some ⟨b_0, 0, none⟩))), (2, .agg #[.pointer (some ⟨2, 175, none⟩), .pointer (some ⟨b_1, 0, none⟩), .int .u64 150]), (3, .iface 148 (.agg #[.pointer (some ⟨2, 30, none⟩)]))]) (N := 62) (S := Sat w Z [(b_0, .cells #[.int .i64 a1] 30 (0, 0)), (b_1, .cells #[.pointer (some ⟨b_0, 0, none⟩)] 175 (0, 0))] [] Glob) Tryz.func62 rfl rfl (Nat.le_of_ble_eq_true rfl) rfl hS ?_
  have hM := h
  clear h hS
  unfold errors_as_1.f at hM
  refine WP.seq ?_
  refine WP.run [] [0, 1, 3, 6, 8] (fun b1 => [(0, .iface 183 (.agg #[.string a0, .iface 30 (.int .i64 a0_1)])), (1, .iface 175 (.pointer (some ⟨b_0, 0, none⟩))), (3, .iface 148 (.agg #[.pointer (some ⟨2, 30, none⟩)])), (6, .pointer (some ⟨b1, 0, none⟩)), (8, .bool false)]) (fun b1 => [(b_0, .cells #[.int .i64 a1] 30 (0, 0)), (b_1, .cells #[.pointer (some ⟨b_0, 0, none⟩)] 175 (0, 0)), (b1, .cells #[.pointer (some ⟨2, 175, none⟩), .pointer (some ⟨b_1, 0, none⟩), .int .u64 150] 106 (0, 0))]) (fun b1 => []) (fun b1 => by kernel_rfl) (fun b1 => ?_)
  refine WP.block ?_
  refine WP.unroll 40 ?_
  refine WP.block ?_
  refine WP.seq ?_
  refine WP.seq ?_
  refine WP.run [] [0, 1, 3, 6, 8, 16, 17, 18, 19] (fun _ => [(0, .iface 183 (.agg #[.string a0, .iface 30 (.int .i64 a0_1)])), (1, .iface 175 (.pointer (some ⟨b_0, 0, none⟩))), (3, .iface 148 (.agg #[.pointer (some ⟨2, 30, none⟩)])), (6, .pointer (some ⟨b1, 0, none⟩)), (8, .bool false), (16, .iface 183 (.agg #[.string a0, .iface 30 (.int .i64 a0_1)])), (17, .iface 148 (.agg #[.pointer (some ⟨2, 183, none⟩)])), (18, .iface 148 (.agg #[.pointer (some ⟨2, 30, none⟩)])), (19, .bool false)]) (fun _ => [(b_0, .cells #[.int .i64 a1] 30 (0, 0)), (b_1, .cells #[.pointer (some ⟨b_0, 0, none⟩)] 175 (0, 0)), (b1, .cells #[.pointer (some ⟨2, 175, none⟩), .pointer (some ⟨b_1, 0, none⟩), .int .u64 150] 106 (0, 0))]) (fun _ => []) (fun _ => by kernel_rfl) (fun _ => ?_)
  refine WP.no rfl rfl ?_
  refine WP.skip ?_
  refine WP.seq ?_
  refine WP.seq ?_
  refine WP.region ?_
  refine WL.run 1 [] [0, 1, 3, 6, 8, 16, 17, 18, 19, 26] (fun _ => [(0, .iface 183 (.agg #[.string a0, .iface 30 (.int .i64 a0_1)])), (1, .iface 175 (.pointer (some ⟨b_0, 0, none⟩))), (3, .iface 148 (.agg #[.pointer (some ⟨2, 30, none⟩)])), (6, .pointer (some ⟨b1, 0, none⟩)), (8, .bool false), (16, .iface 183 (.agg #[.string a0, .iface 30 (.int .i64 a0_1)])), (17, .iface 148 (.agg #[.pointer (some ⟨2, 183, none⟩)])), (18, .iface 148 (.agg #[.pointer (some ⟨2, 30, none⟩)])), (19, .bool false), (26, .iface 183 (.agg #[.string a0, .iface 30 (.int .i64 a0_1)]))]) (fun _ => [(b_0, .cells #[.int .i64 a1] 30 (0, 0)), (b_1, .cells #[.pointer (some ⟨b_0, 0, none⟩)] 175 (0, 0)), (b1, .cells #[.pointer (some ⟨2, 175, none⟩), .pointer (some ⟨b_1, 0, none⟩), .int .u64 150] 106 (0, 0))]) (fun _ => []) (fun _ => by kernel_rfl) (fun _ => ?_)
  refine WL.val (fun _ => run_assertLacks (t := 183) (v := .agg #[.string a0, .iface 30 (.int .i64 a0_1)]) (z := .nilIface) (by kernel_rfl) (by kernel_rfl) (by kernel_rfl)) (by kernel_rfl) (by kernel_rfl) rfl ?_
  refine WL.run 5 [] [0, 1, 3, 6, 8, 9, 10, 16, 17, 18, 19, 25, 26, 27, 28, 29] (fun _ => [(0, .iface 183 (.agg #[.string a0, .iface 30 (.int .i64 a0_1)])), (1, .iface 175 (.pointer (some ⟨b_0, 0, none⟩))), (3, .iface 148 (.agg #[.pointer (some ⟨2, 30, none⟩)])), (6, .pointer (some ⟨b1, 0, none⟩)), (8, .bool false), (9, .nilIface), (10, .bool false), (16, .iface 183 (.agg #[.string a0, .iface 30 (.int .i64 a0_1)])), (17, .iface 148 (.agg #[.pointer (some ⟨2, 183, none⟩)])), (18, .iface 148 (.agg #[.pointer (some ⟨2, 30, none⟩)])), (19, .bool false), (25, .tuple #[.nilIface, .bool false]), (26, .iface 183 (.agg #[.string a0, .iface 30 (.int .i64 a0_1)])), (27, .tuple #[.nilIface, .bool false]), (28, .nilIface), (29, .bool false)]) (fun _ => [(b_0, .cells #[.int .i64 a1] 30 (0, 0)), (b_1, .cells #[.pointer (some ⟨b_0, 0, none⟩)] 175 (0, 0)), (b1, .cells #[.pointer (some ⟨2, 175, none⟩), .pointer (some ⟨b_1, 0, none⟩), .int .u64 150] 106 (0, 0))]) (fun _ => []) (fun _ => by kernel_rfl) (fun _ => ?_)
  refine WP.done ?_
  refine WP.seq ?_
  refine WP.run [] [0, 1, 3, 6, 8, 9, 10, 16, 17, 18, 19, 25, 26, 27, 28, 29, 30, 31, 32, 33, 34, 35] (fun _ => [(0, .iface 183 (.agg #[.string a0, .iface 30 (.int .i64 a0_1)])), (1, .iface 175 (.pointer (some ⟨b_0, 0, none⟩))), (3, .iface 148 (.agg #[.pointer (some ⟨2, 30, none⟩)])), (6, .pointer (some ⟨b1, 0, none⟩)), (8, .bool false), (9, .nilIface), (10, .bool false), (16, .iface 183 (.agg #[.string a0, .iface 30 (.int .i64 a0_1)])), (17, .iface 148 (.agg #[.pointer (some ⟨2, 183, none⟩)])), (18, .iface 148 (.agg #[.pointer (some ⟨2, 30, none⟩)])), (19, .bool false), (25, .tuple #[.nilIface, .bool false]), (26, .iface 183 (.agg #[.string a0, .iface 30 (.int .i64 a0_1)])), (27, .tuple #[.nilIface, .bool false]), (28, .nilIface), (29, .bool false), (30, .bool false), (31, .bool false), (32, .tuple #[]), (33, .tuple #[]), (34, .tuple #[]), (35, .bool false)]) (fun _ => [(b_0, .cells #[.int .i64 a1] 30 (0, 0)), (b_1, .cells #[.pointer (some ⟨b_0, 0, none⟩)] 175 (0, 0)), (b1, .cells #[.pointer (some ⟨2, 175, none⟩), .pointer (some ⟨b_1, 0, none⟩), .int .u64 150] 106 (0, 0))]) (fun _ => []) (fun _ => by kernel_rfl) (fun _ => ?_)
  refine WP.no rfl rfl ?_
  refine WP.skip ?_
  refine WP.seq ?_
  refine WP.run [] [0, 1, 3, 6, 8, 9, 10, 16, 17, 18, 19, 25, 26, 27, 28, 29, 30, 31, 32, 33, 34, 35, 36] (fun _ => [(0, .iface 183 (.agg #[.string a0, .iface 30 (.int .i64 a0_1)])), (1, .iface 175 (.pointer (some ⟨b_0, 0, none⟩))), (3, .iface 148 (.agg #[.pointer (some ⟨2, 30, none⟩)])), (6, .pointer (some ⟨b1, 0, none⟩)), (8, .bool false), (9, .nilIface), (10, .bool false), (16, .iface 183 (.agg #[.string a0, .iface 30 (.int .i64 a0_1)])), (17, .iface 148 (.agg #[.pointer (some ⟨2, 183, none⟩)])), (18, .iface 148 (.agg #[.pointer (some ⟨2, 30, none⟩)])), (19, .bool false), (25, .tuple #[.nilIface, .bool false]), (26, .iface 183 (.agg #[.string a0, .iface 30 (.int .i64 a0_1)])), (27, .tuple #[.nilIface, .bool false]), (28, .nilIface), (29, .bool false), (30, .bool false), (31, .bool false), (32, .tuple #[]), (33, .tuple #[]), (34, .tuple #[]), (35, .bool false), (36, .iface 183 (.agg #[.string a0, .iface 30 (.int .i64 a0_1)]))]) (fun _ => [(b_0, .cells #[.int .i64 a1] 30 (0, 0)), (b_1, .cells #[.pointer (some ⟨b_0, 0, none⟩)] 175 (0, 0)), (b1, .cells #[.pointer (some ⟨2, 175, none⟩), .pointer (some ⟨b_1, 0, none⟩), .int .u64 150] 106 (0, 0))]) (fun _ => []) (fun _ => by kernel_rfl) (fun _ => ?_)
  refine WP.block ?_
  refine WP.seq ?_
  refine WP.region ?_
  refine WL.val (fun _ => run_assertHas (t := 183) (v := .agg #[.string a0, .iface 30 (.int .i64 a0_1)]) (by kernel_rfl) (by kernel_rfl)) (by kernel_rfl) (by kernel_rfl) rfl ?_
  refine WL.run 2 [] [0, 1, 3, 6, 8, 9, 10, 16, 17, 18, 19, 25, 26, 27, 28, 29, 30, 31, 32, 33, 34, 35, 36, 37, 38, 39] (fun _ => [(0, .iface 183 (.agg #[.string a0, .iface 30 (.int .i64 a0_1)])), (1, .iface 175 (.pointer (some ⟨b_0, 0, none⟩))), (3, .iface 148 (.agg #[.pointer (some ⟨2, 30, none⟩)])), (6, .pointer (some ⟨b1, 0, none⟩)), (8, .bool false), (9, .nilIface), (10, .bool false), (16, .iface 183 (.agg #[.string a0, .iface 30 (.int .i64 a0_1)])), (17, .iface 148 (.agg #[.pointer (some ⟨2, 183, none⟩)])), (18, .iface 148 (.agg #[.pointer (some ⟨2, 30, none⟩)])), (19, .bool false), (25, .tuple #[.nilIface, .bool false]), (26, .iface 183 (.agg #[.string a0, .iface 30 (.int .i64 a0_1)])), (27, .tuple #[.nilIface, .bool false]), (28, .nilIface), (29, .bool false), (30, .bool false), (31, .bool false), (32, .tuple #[]), (33, .tuple #[]), (34, .tuple #[]), (35, .bool false), (36, .iface 183 (.agg #[.string a0, .iface 30 (.int .i64 a0_1)])), (37, .tuple #[.iface 183 (.agg #[.string a0, .iface 30 (.int .i64 a0_1)]), .bool true]), (38, .bool true), (39, .iface 183 (.agg #[.string a0, .iface 30 (.int .i64 a0_1)]))]) (fun _ => [(b_0, .cells #[.int .i64 a1] 30 (0, 0)), (b_1, .cells #[.pointer (some ⟨b_0, 0, none⟩)] 175 (0, 0)), (b1, .cells #[.pointer (some ⟨2, 175, none⟩), .pointer (some ⟨b_1, 0, none⟩), .int .u64 150] 106 (0, 0))]) (fun _ => []) (fun _ => by kernel_rfl) (fun _ => ?_)
  refine WP.done ?_
  refine WP.yes rfl rfl ?_
  refine WP.seq ?_
  refine WP.run [] [0, 1, 3, 6, 8, 9, 10, 11, 16, 17, 18, 19, 25, 26, 27, 28, 29, 30, 31, 32, 33, 34, 35, 36, 37, 38, 39] (fun _ => [(0, .iface 183 (.agg #[.string a0, .iface 30 (.int .i64 a0_1)])), (1, .iface 175 (.pointer (some ⟨b_0, 0, none⟩))), (3, .iface 148 (.agg #[.pointer (some ⟨2, 30, none⟩)])), (6, .pointer (some ⟨b1, 0, none⟩)), (8, .bool false), (9, .nilIface), (10, .bool false), (11, .iface 183 (.agg #[.string a0, .iface 30 (.int .i64 a0_1)])), (16, .iface 183 (.agg #[.string a0, .iface 30 (.int .i64 a0_1)])), (17, .iface 148 (.agg #[.pointer (some ⟨2, 183, none⟩)])), (18, .iface 148 (.agg #[.pointer (some ⟨2, 30, none⟩)])), (19, .bool false), (25, .tuple #[.nilIface, .bool false]), (26, .iface 183 (.agg #[.string a0, .iface 30 (.int .i64 a0_1)])), (27, .tuple #[.nilIface, .bool false]), (28, .nilIface), (29, .bool false), (30, .bool false), (31, .bool false), (32, .tuple #[]), (33, .tuple #[]), (34, .tuple #[]), (35, .bool false), (36, .iface 183 (.agg #[.string a0, .iface 30 (.int .i64 a0_1)])), (37, .tuple #[.iface 183 (.agg #[.string a0, .iface 30 (.int .i64 a0_1)]), .bool true]), (38, .bool true), (39, .iface 183 (.agg #[.string a0, .iface 30 (.int .i64 a0_1)]))]) (fun _ => [(b_0, .cells #[.int .i64 a1] 30 (0, 0)), (b_1, .cells #[.pointer (some ⟨b_0, 0, none⟩)] 175 (0, 0)), (b1, .cells #[.pointer (some ⟨2, 175, none⟩), .pointer (some ⟨b_1, 0, none⟩), .int .u64 150] 106 (0, 0))]) (fun _ => []) (fun _ => by kernel_rfl) (fun _ => ?_)
  refine WP.seq ?_
  refine WP.region ?_
  refine WL.run 1 [] [0, 1, 3, 6, 8, 9, 10, 11, 16, 17, 18, 19, 25, 26, 27, 28, 29, 30, 31, 32, 33, 34, 35, 36, 37, 38, 39, 40] (fun _ => [(0, .iface 183 (.agg #[.string a0, .iface 30 (.int .i64 a0_1)])), (1, .iface 175 (.pointer (some ⟨b_0, 0, none⟩))), (3, .iface 148 (.agg #[.pointer (some ⟨2, 30, none⟩)])), (6, .pointer (some ⟨b1, 0, none⟩)), (8, .bool false), (9, .nilIface), (10, .bool false), (11, .iface 183 (.agg #[.string a0, .iface 30 (.int .i64 a0_1)])), (16, .iface 183 (.agg #[.string a0, .iface 30 (.int .i64 a0_1)])), (17, .iface 148 (.agg #[.pointer (some ⟨2, 183, none⟩)])), (18, .iface 148 (.agg #[.pointer (some ⟨2, 30, none⟩)])), (19, .bool false), (25, .tuple #[.nilIface, .bool false]), (26, .iface 183 (.agg #[.string a0, .iface 30 (.int .i64 a0_1)])), (27, .tuple #[.nilIface, .bool false]), (28, .nilIface), (29, .bool false), (30, .bool false), (31, .bool false), (32, .tuple #[]), (33, .tuple #[]), (34, .tuple #[]), (35, .bool false), (36, .iface 183 (.agg #[.string a0, .iface 30 (.int .i64 a0_1)])), (37, .tuple #[.iface 183 (.agg #[.string a0, .iface 30 (.int .i64 a0_1)]), .bool true]), (38, .bool true), (39, .iface 183 (.agg #[.string a0, .iface 30 (.int .i64 a0_1)])), (40, .iface 183 (.agg #[.string a0, .iface 30 (.int .i64 a0_1)]))]) (fun _ => [(b_0, .cells #[.int .i64 a1] 30 (0, 0)), (b_1, .cells #[.pointer (some ⟨b_0, 0, none⟩)] 175 (0, 0)), (b1, .cells #[.pointer (some ⟨2, 175, none⟩), .pointer (some ⟨b_1, 0, none⟩), .int .u64 150] 106 (0, 0))]) (fun _ => []) (fun _ => by kernel_rfl) (fun _ => ?_)
  obtain ⟨r3, h4, hM⟩ := bind_some hM
  refine WL.callP [] [] (ether_odd_Unwrap_calls a0 a0_1 _ h4) (fun _ h => h) (by kernel_rfl) (by kernel_rfl) rfl ?_
  refine WL.run 1 [] [0, 1, 3, 6, 8, 9, 10, 11, 16, 17, 18, 19, 25, 26, 27, 28, 29, 30, 31, 32, 33, 34, 35, 36, 37, 38, 39, 40, 41] (fun _ => [(0, .iface 30 (.int .i64 r3)), (1, .iface 175 (.pointer (some ⟨b_0, 0, none⟩))), (3, .iface 148 (.agg #[.pointer (some ⟨2, 30, none⟩)])), (6, .pointer (some ⟨b1, 0, none⟩)), (8, .bool false), (9, .nilIface), (10, .bool false), (11, .iface 183 (.agg #[.string a0, .iface 30 (.int .i64 a0_1)])), (16, .iface 183 (.agg #[.string a0, .iface 30 (.int .i64 a0_1)])), (17, .iface 148 (.agg #[.pointer (some ⟨2, 183, none⟩)])), (18, .iface 148 (.agg #[.pointer (some ⟨2, 30, none⟩)])), (19, .bool false), (25, .tuple #[.nilIface, .bool false]), (26, .iface 183 (.agg #[.string a0, .iface 30 (.int .i64 a0_1)])), (27, .tuple #[.nilIface, .bool false]), (28, .nilIface), (29, .bool false), (30, .bool false), (31, .bool false), (32, .tuple #[]), (33, .tuple #[]), (34, .tuple #[]), (35, .bool false), (36, .iface 183 (.agg #[.string a0, .iface 30 (.int .i64 a0_1)])), (37, .tuple #[.iface 183 (.agg #[.string a0, .iface 30 (.int .i64 a0_1)]), .bool true]), (38, .bool true), (39, .iface 183 (.agg #[.string a0, .iface 30 (.int .i64 a0_1)])), (40, .iface 183 (.agg #[.string a0, .iface 30 (.int .i64 a0_1)])), (41, .iface 30 (.int .i64 r3))]) (fun _ => [(b_0, .cells #[.int .i64 a1] 30 (0, 0)), (b_1, .cells #[.pointer (some ⟨b_0, 0, none⟩)] 175 (0, 0)), (b1, .cells #[.pointer (some ⟨2, 175, none⟩), .pointer (some ⟨b_1, 0, none⟩), .int .u64 150] 106 (0, 0))]) (fun _ => []) (fun _ => by kernel_rfl) (fun _ => ?_)
  refine WP.done ?_
  refine WP.seq ?_
  refine WP.run [] [0, 1, 3, 6, 8, 9, 10, 11, 16, 17, 18, 19, 25, 26, 27, 28, 29, 30, 31, 32, 33, 34, 35, 36, 37, 38, 39, 40, 41, 42, 43] (fun _ => [(0, .iface 30 (.int .i64 r3)), (1, .iface 175 (.pointer (some ⟨b_0, 0, none⟩))), (3, .iface 148 (.agg #[.pointer (some ⟨2, 30, none⟩)])), (6, .pointer (some ⟨b1, 0, none⟩)), (8, .bool false), (9, .nilIface), (10, .bool false), (11, .iface 183 (.agg #[.string a0, .iface 30 (.int .i64 a0_1)])), (16, .iface 183 (.agg #[.string a0, .iface 30 (.int .i64 a0_1)])), (17, .iface 148 (.agg #[.pointer (some ⟨2, 183, none⟩)])), (18, .iface 148 (.agg #[.pointer (some ⟨2, 30, none⟩)])), (19, .bool false), (25, .tuple #[.nilIface, .bool false]), (26, .iface 183 (.agg #[.string a0, .iface 30 (.int .i64 a0_1)])), (27, .tuple #[.nilIface, .bool false]), (28, .nilIface), (29, .bool false), (30, .bool false), (31, .bool false), (32, .tuple #[]), (33, .tuple #[]), (34, .tuple #[]), (35, .bool false), (36, .iface 183 (.agg #[.string a0, .iface 30 (.int .i64 a0_1)])), (37, .tuple #[.iface 183 (.agg #[.string a0, .iface 30 (.int .i64 a0_1)]), .bool true]), (38, .bool true), (39, .iface 183 (.agg #[.string a0, .iface 30 (.int .i64 a0_1)])), (40, .iface 183 (.agg #[.string a0, .iface 30 (.int .i64 a0_1)])), (41, .iface 30 (.int .i64 r3)), (42, .iface 30 (.int .i64 r3)), (43, .bool false)]) (fun _ => [(b_0, .cells #[.int .i64 a1] 30 (0, 0)), (b_1, .cells #[.pointer (some ⟨b_0, 0, none⟩)] 175 (0, 0)), (b1, .cells #[.pointer (some ⟨2, 175, none⟩), .pointer (some ⟨b_1, 0, none⟩), .int .u64 150] 106 (0, 0))]) (fun _ => []) (fun _ => by kernel_rfl) (fun _ => ?_)
  refine WP.no rfl rfl ?_
  refine WP.skip ?_
  refine WP.leave ?_
  refine WP.leave ?_
  refine WP.round ?_
  refine WP.block ?_
  refine WP.seq ?_
  refine WP.seq ?_
  refine WP.run [] [0, 1, 3, 6, 8, 9, 10, 11, 16, 17, 18, 19, 25, 26, 27, 28, 29, 30, 31, 32, 33, 34, 35, 36, 37, 38, 39, 40, 41, 42, 43] (fun _ => [(0, .iface 30 (.int .i64 r3)), (1, .iface 175 (.pointer (some ⟨b_0, 0, none⟩))), (3, .iface 148 (.agg #[.pointer (some ⟨2, 30, none⟩)])), (6, .pointer (some ⟨b1, 0, none⟩)), (8, .bool false), (9, .nilIface), (10, .bool false), (11, .iface 183 (.agg #[.string a0, .iface 30 (.int .i64 a0_1)])), (16, .iface 30 (.int .i64 r3)), (17, .iface 148 (.agg #[.pointer (some ⟨2, 30, none⟩)])), (18, .iface 148 (.agg #[.pointer (some ⟨2, 30, none⟩)])), (19, .bool true), (25, .tuple #[.nilIface, .bool false]), (26, .iface 183 (.agg #[.string a0, .iface 30 (.int .i64 a0_1)])), (27, .tuple #[.nilIface, .bool false]), (28, .nilIface), (29, .bool false), (30, .bool false), (31, .bool false), (32, .tuple #[]), (33, .tuple #[]), (34, .tuple #[]), (35, .bool false), (36, .iface 183 (.agg #[.string a0, .iface 30 (.int .i64 a0_1)])), (37, .tuple #[.iface 183 (.agg #[.string a0, .iface 30 (.int .i64 a0_1)]), .bool true]), (38, .bool true), (39, .iface 183 (.agg #[.string a0, .iface 30 (.int .i64 a0_1)])), (40, .iface 183 (.agg #[.string a0, .iface 30 (.int .i64 a0_1)])), (41, .iface 30 (.int .i64 r3)), (42, .iface 30 (.int .i64 r3)), (43, .bool false)]) (fun _ => [(b_0, .cells #[.int .i64 a1] 30 (0, 0)), (b_1, .cells #[.pointer (some ⟨b_0, 0, none⟩)] 175 (0, 0)), (b1, .cells #[.pointer (some ⟨2, 175, none⟩), .pointer (some ⟨b_1, 0, none⟩), .int .u64 150] 106 (0, 0))]) (fun _ => []) (fun _ => by kernel_rfl) (fun _ => ?_)
  refine WP.yes rfl rfl ?_
  refine WP.seq ?_
  refine WP.run [2, 2, 2, 1, 3, 0] [0, 1, 3, 6, 8, 9, 10, 11, 16, 17, 18, 19, 20, 21, 22, 23, 25, 26, 27, 28, 29, 30, 31, 32, 33, 34, 35, 36, 37, 38, 39, 40, 41, 42, 43] (fun b5 => [(0, .iface 30 (.int .i64 r3)), (1, .iface 175 (.pointer (some ⟨b_0, 0, none⟩))), (3, .iface 148 (.agg #[.pointer (some ⟨2, 30, none⟩)])), (6, .pointer (some ⟨b1, 0, none⟩)), (8, .bool false), (9, .nilIface), (10, .bool false), (11, .iface 183 (.agg #[.string a0, .iface 30 (.int .i64 a0_1)])), (16, .iface 30 (.int .i64 r3)), (17, .iface 148 (.agg #[.pointer (some ⟨2, 30, none⟩)])), (18, .iface 148 (.agg #[.pointer (some ⟨2, 30, none⟩)])), (19, .bool true), (20, .agg #[.pointer (some ⟨2, 175, none⟩), .pointer (some ⟨b_1, 0, none⟩), .int .u64 150]), (21, .agg #[.pointer (some ⟨2, 30, none⟩), .pointer (some ⟨b_0, 0, none⟩), .int .u64 386]), (22, .iface 30 (.int .i64 r3)), (23, .agg #[.pointer (some ⟨2, 30, none⟩), .pointer (some ⟨b5, 0, none⟩), .int .u64 130]), (25, .tuple #[.nilIface, .bool false]), (26, .iface 183 (.agg #[.string a0, .iface 30 (.int .i64 a0_1)])), (27, .tuple #[.nilIface, .bool false]), (28, .nilIface), (29, .bool false), (30, .bool false), (31, .bool false), (32, .tuple #[]), (33, .tuple #[]), (34, .tuple #[]), (35, .bool false), (36, .iface 183 (.agg #[.string a0, .iface 30 (.int .i64 a0_1)])), (37, .tuple #[.iface 183 (.agg #[.string a0, .iface 30 (.int .i64 a0_1)]), .bool true]), (38, .bool true), (39, .iface 183 (.agg #[.string a0, .iface 30 (.int .i64 a0_1)])), (40, .iface 183 (.agg #[.string a0, .iface 30 (.int .i64 a0_1)])), (41, .iface 30 (.int .i64 r3)), (42, .iface 30 (.int .i64 r3)), (43, .bool false)]) (fun b5 => [(b_0, .cells #[.int .i64 r3] 30 (0, 0)), (b_1, .cells #[.pointer (some ⟨b_0, 0, none⟩)] 175 (0, 0)), (b1, .cells #[.pointer (some ⟨2, 175, none⟩), .pointer (some ⟨b_1, 0, none⟩), .int .u64 150] 106 (0, 0)), (b5, .cells #[.int .i64 r3] 30 (0, 0))]) (fun b5 => [b_0, b5, b_1, b1, b1, b1]) (fun b5 => by kernel_rfl) (fun b5 => ?_)
  refine WP.seq ?_
  refine WP.run [] [0, 1, 3, 6, 8, 9, 10, 11, 16, 17, 18, 19, 20, 21, 22, 23, 25, 26, 27, 28, 29, 30, 31, 32, 33, 34, 35, 36, 37, 38, 39, 40, 41, 42, 43] (fun _ => [(0, .iface 30 (.int .i64 r3)), (1, .iface 175 (.pointer (some ⟨b_0, 0, none⟩))), (3, .iface 148 (.agg #[.pointer (some ⟨2, 30, none⟩)])), (6, .pointer (some ⟨b1, 0, none⟩)), (8, .bool true), (9, .nilIface), (10, .bool false), (11, .iface 183 (.agg #[.string a0, .iface 30 (.int .i64 a0_1)])), (16, .iface 30 (.int .i64 r3)), (17, .iface 148 (.agg #[.pointer (some ⟨2, 30, none⟩)])), (18, .iface 148 (.agg #[.pointer (some ⟨2, 30, none⟩)])), (19, .bool true), (20, .agg #[.pointer (some ⟨2, 175, none⟩), .pointer (some ⟨b_1, 0, none⟩), .int .u64 150]), (21, .agg #[.pointer (some ⟨2, 30, none⟩), .pointer (some ⟨b_0, 0, none⟩), .int .u64 386]), (22, .iface 30 (.int .i64 r3)), (23, .agg #[.pointer (some ⟨2, 30, none⟩), .pointer (some ⟨b5, 0, none⟩), .int .u64 130]), (25, .tuple #[.nilIface, .bool false]), (26, .iface 183 (.agg #[.string a0, .iface 30 (.int .i64 a0_1)])), (27, .tuple #[.nilIface, .bool false]), (28, .nilIface), (29, .bool false), (30, .bool false), (31, .bool false), (32, .tuple #[]), (33, .tuple #[]), (34, .tuple #[]), (35, .bool false), (36, .iface 183 (.agg #[.string a0, .iface 30 (.int .i64 a0_1)])), (37, .tuple #[.iface 183 (.agg #[.string a0, .iface 30 (.int .i64 a0_1)]), .bool true]), (38, .bool true), (39, .iface 183 (.agg #[.string a0, .iface 30 (.int .i64 a0_1)])), (40, .iface 183 (.agg #[.string a0, .iface 30 (.int .i64 a0_1)])), (41, .iface 30 (.int .i64 r3)), (42, .iface 30 (.int .i64 r3)), (43, .bool false)]) (fun _ => [(b_0, .cells #[.int .i64 r3] 30 (0, 0)), (b_1, .cells #[.pointer (some ⟨b_0, 0, none⟩)] 175 (0, 0)), (b1, .cells #[.pointer (some ⟨2, 175, none⟩), .pointer (some ⟨b_1, 0, none⟩), .int .u64 150] 106 (0, 0)), (b5, .cells #[.int .i64 r3] 30 (0, 0))]) (fun _ => []) (fun _ => by kernel_rfl) (fun _ => ?_)
  obtain rfl := Option.some.inj hM
  exact WP.ret [] [] (.bool true) (by kernel_rfl) (fun w' hw => ⟨(), rfl, hw.pick [0, 1] (by kernel_rfl)⟩)

end Go.Proofs.YtbodofjnfmjbpaaGreatDoor

namespace Go.Proofs.YtbodofjnfmjbpaaGreatDoor
open Go Eng
set_option linter.unusedVariables false
set_option linter.unusedSimpArgs false

/-! ### errors.As: function 34 -/
def errors_As_1.f (a0 : ByteArray) (a0_1 : Int) (a1 : Int) : Option (Bool × Int) :=
  (errors_as_1.f a0 a0_1 a1).bind fun (r2, r3) =>
  some (r2, r3)

set_option maxRecDepth 100000 in
theorem errors_As_1_calls (b_0 : Nat) (a0 : ByteArray) (a0_1 : Int) (a1 : Int) (r : Bool × Int) (h : errors_As_1.f a0 a0_1 a1 = some r) : Does Tryz.prog 34 #[.iface 183 (.agg #[.string a0, .iface 30 (.int .i64 a0_1)]), .iface 175 (.pointer (some ⟨b_0, 0, none⟩))] [(b_0, .cells #[.int .i64 a1] 30 (0, 0))] Glob (fun _ : Unit => .bool r.1) (fun _ => [(b_0, .cells #[.int .i64 r.2] 30 (0, 0))]) (fun _ => []) (fun _ => Glob) := by
  intro w Z hS
  refine calls_of (args := [.iface 183 (.agg #[.string a0, .iface 30 (.int .i64 a0_1)]), .iface 175 (.pointer (some ⟨b_0, 0, none⟩))]) (L := [(0, .iface 183 (.agg #[.string a0, .iface 30 (.int .i64 a0_1)])), (1, .iface 175 (.pointer (some ⟨b_0, 0, none⟩)))]) (N := 42) (S := Sat w Z [(b_0, .cells #[.int .i64 a1] 30 (0, 0))] [] Glob) Tryz.func34 rfl rfl (Nat.le_of_ble_eq_true rfl) rfl hS ?_
  have hM := h
  clear h hS
  unfold errors_As_1.f at hM
  refine WP.seq ?_
  refine WP.run [] [0, 1, 4] (fun _ => [(0, .iface 183 (.agg #[.string a0, .iface 30 (.int .i64 a0_1)])), (1, .iface 175 (.pointer (some ⟨b_0, 0, none⟩))), (4, .bool false)]) (fun _ => [(b_0, .cells #[.int .i64 a1] 30 (0, 0))]) (fun _ => []) (fun _ => by kernel_rfl) (fun _ => ?_)
  refine WP.seq ?_
  refine WP.seq ?_
  refine WP.run [] [0, 1, 4, 9] (fun _ => [(0, .iface 183 (.agg #[.string a0, .iface 30 (.int .i64 a0_1)])), (1, .iface 175 (.pointer (some ⟨b_0, 0, none⟩))), (4, .bool false), (9, .bool false)]) (fun _ => [(b_0, .cells #[.int .i64 a1] 30 (0, 0))]) (fun _ => []) (fun _ => by kernel_rfl) (fun _ => ?_)
  refine WP.no rfl rfl ?_
  refine WP.skip ?_
  refine WP.seq ?_
  refine WP.seq ?_
  refine WP.run [] [0, 1, 4, 11] (fun _ => [(0, .iface 183 (.agg #[.string a0, .iface 30 (.int .i64 a0_1)])), (1, .iface 175 (.pointer (some ⟨b_0, 0, none⟩))), (4, .bool false), (11, .bool false)]) (fun _ => [(b_0, .cells #[.int .i64 a1] 30 (0, 0))]) (fun _ => []) (fun _ => by kernel_rfl) (fun _ => ?_)
  refine WP.no rfl rfl ?_
  refine WP.skip ?_
  refine WP.seq ?_
  refine WP.run [2, 2, 2] [0, 1, 4, 5] (fun b1 => [(0, .iface 183 (.agg #[.string a0, .iface 30 (.int .i64 a0_1)])), (1, .iface 175 (.pointer (some ⟨b_0, 0, none⟩))), (4, .bool false), (5, .pointer (some ⟨(b1 + 1), 0, none⟩))]) (fun b1 => [(b_0, .cells #[.int .i64 a1] 30 (0, 0)), (b1, .cells #[.pointer (some ⟨b_0, 0, none⟩)] 175 (0, 0)), ((b1 + 1), .cells #[.pointer (some ⟨2, 175, none⟩), .pointer (some ⟨b1, 0, none⟩), .int .u64 150] 106 (0, 0))]) (fun b1 => [(b1 + 1), (b1 + 1), (b1 + 1)]) (fun b1 => by kernel_rfl) (fun b1 => ?_)
  refine WP.seq ?_
  refine WP.run [2, 2, 2] [0, 1, 4, 5, 6] (fun _ => [(0, .iface 183 (.agg #[.string a0, .iface 30 (.int .i64 a0_1)])), (1, .iface 175 (.pointer (some ⟨b_0, 0, none⟩))), (4, .bool false), (5, .pointer (some ⟨(b1 + 1), 0, none⟩)), (6, .iface 148 (.agg #[.pointer (some ⟨2, 175, none⟩)]))]) (fun _ => [(b_0, .cells #[.int .i64 a1] 30 (0, 0)), (b1, .cells #[.pointer (some ⟨b_0, 0, none⟩)] 175 (0, 0)), ((b1 + 1), .cells #[.pointer (some ⟨2, 175, none⟩), .pointer (some ⟨b1, 0, none⟩), .int .u64 150] 106 (0, 0))]) (fun _ => [(b1 + 1), (b1 + 1), (b1 + 1)]) (fun _ => by kernel_rfl) (fun _ => ?_)
  refine WP.seq ?_
  refine WP.seq ?_
  refine WP.run [2, 2, 2, 1] [0, 1, 4, 5, 6, 23] (fun _ => [(0, .iface 183 (.agg #[.string a0, .iface 30 (.int .i64 a0_1)])), (1, .iface 175 (.pointer (some ⟨b_0, 0, none⟩))), (4, .bool false), (5, .pointer (some ⟨(b1 + 1), 0, none⟩)), (6, .iface 148 (.agg #[.pointer (some ⟨2, 175, none⟩)])), (23, .bool false)]) (fun _ => [(b_0, .cells #[.int .i64 a1] 30 (0, 0)), (b1, .cells #[.pointer (some ⟨b_0, 0, none⟩)] 175 (0, 0)), ((b1 + 1), .cells #[.pointer (some ⟨2, 175, none⟩), .pointer (some ⟨b1, 0, none⟩), .int .u64 150] 106 (0, 0))]) (fun _ => [b1, (b1 + 1), (b1 + 1), (b1 + 1)]) (fun _ => by kernel_rfl) (fun _ => ?_)
  refine WP.no rfl rfl ?_
  refine WP.skip ?_
  refine WP.seq ?_
  refine WP.run [] [0, 1, 4, 5, 7] (fun _ => [(0, .iface 183 (.agg #[.string a0, .iface 30 (.int .i64 a0_1)])), (1, .iface 175 (.pointer (some ⟨b_0, 0, none⟩))), (4, .bool false), (5, .pointer (some ⟨(b1 + 1), 0, none⟩)), (7, .iface 148 (.agg #[.pointer (some ⟨2, 30, none⟩)]))]) (fun _ => [(b_0, .cells #[.int .i64 a1] 30 (0, 0)), (b1, .cells #[.pointer (some ⟨b_0, 0, none⟩)] 175 (0, 0)), ((b1 + 1), .cells #[.pointer (some ⟨2, 175, none⟩), .pointer (some ⟨b1, 0, none⟩), .int .u64 150] 106 (0, 0))]) (fun _ => []) (fun _ => by kernel_rfl) (fun _ => ?_)
  refine WP.seq ?_
  refine WP.seq ?_
  refine WP.region ?_
  refine WL.run 5 [] [0, 1, 4, 5, 7, 30, 31] (fun _ => [(0, .iface 183 (.agg #[.string a0, .iface 30 (.int .i64 a0_1)])), (1, .iface 175 (.pointer (some ⟨b_0, 0, none⟩))), (4, .bool false), (5, .pointer (some ⟨(b1 + 1), 0, none⟩)), (7, .iface 148 (.agg #[.pointer (some ⟨2, 30, none⟩)])), (30, .bool true), (31, .iface 148 (.agg #[.pointer (some ⟨2, 30, none⟩)]))]) (fun _ => [(b_0, .cells #[.int .i64 a1] 30 (0, 0)), (b1, .cells #[.pointer (some ⟨b_0, 0, none⟩)] 175 (0, 0)), ((b1 + 1), .cells #[.pointer (some ⟨2, 175, none⟩), .pointer (some ⟨b1, 0, none⟩), .int .u64 150] 106 (0, 0))]) (fun _ => []) (fun _ => by kernel_rfl) (fun _ => ?_)
  refine WL.loadGlob (v := .iface 148 (.agg #[.pointer (some ⟨2, 73, none⟩)])) (by simp [Glob]) (fun _ => by kernel_rfl) (by kernel_rfl) rfl ?_
  refine WL.run 3 [] [0, 1, 4, 5, 7, 35] (fun _ => [(0, .iface 183 (.agg #[.string a0, .iface 30 (.int .i64 a0_1)])), (1, .iface 175 (.pointer (some ⟨b_0, 0, none⟩))), (4, .bool false), (5, .pointer (some ⟨(b1 + 1), 0, none⟩)), (7, .iface 148 (.agg #[.pointer (some ⟨2, 30, none⟩)])), (35, .bool false)]) (fun _ => [(b_0, .cells #[.int .i64 a1] 30 (0, 0)), (b1, .cells #[.pointer (some ⟨b_0, 0, none⟩)] 175 (0, 0)), ((b1 + 1), .cells #[.pointer (some ⟨2, 175, none⟩), .pointer (some ⟨b1, 0, none⟩), .int .u64 150] 106 (0, 0))]) (fun _ => []) (fun _ => by kernel_rfl) (fun _ => ?_)
  refine WP.done ?_
  refine WP.no rfl rfl ?_
  refine WP.skip ?_
  refine WP.seq ?_
  refine WP.region ?_
  refine WL.run 4 [2, 2, 2] [4, 37, 38, 39, 40] (fun _ => [(4, .bool false), (37, .iface 183 (.agg #[.string a0, .iface 30 (.int .i64 a0_1)])), (38, .iface 175 (.pointer (some ⟨b_0, 0, none⟩))), (39, .agg #[.pointer (some ⟨2, 175, none⟩), .pointer (some ⟨b1, 0, none⟩), .int .u64 150]), (40, .iface 148 (.agg #[.pointer (some ⟨2, 30, none⟩)]))]) (fun _ => [(b_0, .cells #[.int .i64 a1] 30 (0, 0)), (b1, .cells #[.pointer (some ⟨b_0, 0, none⟩)] 175 (0, 0)), ((b1 + 1), .cells #[.pointer (some ⟨2, 175, none⟩), .pointer (some ⟨b1, 0, none⟩), .int .u64 150] 106 (0, 0))]) (fun _ => [(b1 + 1), (b1 + 1), (b1 + 1)]) (fun _ => by kernel_rfl) (fun _ => ?_)
  obtain ⟨⟨r2, r3⟩, h4, hM⟩ := bind_some hM
  dsimp only at hM
  refine WL.callE (X := Unit) [] [] [true, true, false] (fun _ => _) (errors_as_1_calls b_0 b1 a0 a0_1 a1 _ h4) rfl rfl (fun _ h => h) (by kernel_rfl) (by kernel_rfl) (fun _ => rfl) (fun _ => ?_)
  refine WL.run 1 [] [4] (fun _ => [(4, .bool r2)]) (fun _ => [(b_0, .cells #[.int .i64 r3] 30 (0, 0)), (b1, .cells #[.pointer (some ⟨b_0, 0, none⟩)] 175 (0, 0)), ((b1 + 1), .cells #[.pointer (some ⟨2, 175, none⟩), .pointer (some ⟨b1, 0, none⟩), .int .u64 150] 106 (0, 0))]) (fun _ => []) (fun _ => by kernel_rfl) (fun _ => ?_)
  refine WP.done ?_
  refine WP.keep [true, false, false] (by kernel_rfl : _ = [(b_0, .cells #[.int .i64 r3] 30 (0, 0))]) ?_
  obtain rfl := Option.some.inj hM
  exact WP.ret [] [] (.bool r2) (by kernel_rfl) (fun w' hw => ⟨(), rfl, hw.pick [0] (by kernel_rfl)⟩)

end Go.Proofs.YtbodofjnfmjbpaaGreatDoor

namespace Go.Proofs.YtbodofjnfmjbpaaGreatDoor
open Go Eng
set_option linter.unusedVariables false
set_option linter.unusedSimpArgs false

/-! ### gangway/ether.number: function 84 -/
def ether_number.f (a0 : ByteArray) (a0_1 : Int) : Option (Int) :=
  (errors_As_1.f a0 a0_1 0).bind fun (r2, r3) =>
  bif r2 then
    some r3
  else
    some 0

set_option maxRecDepth 100000 in
theorem ether_number_calls (a0 : ByteArray) (a0_1 : Int) (r : Int) (h : ether_number.f a0 a0_1 = some r) : Pure Tryz.prog Glob 84 #[.iface 183 (.agg #[.string a0, .iface 30 (.int .i64 a0_1)])] (.int .i64 r) := by
  intro w Z hS
  refine calls_of (args := [.iface 183 (.agg #[.string a0, .iface 30 (.int .i64 a0_1)])]) (L := [(0, .iface 183 (.agg #[.string a0, .iface 30 (.int .i64 a0_1)]))]) (N := 8) (S := Sat w Z [] [] Glob) Tryz.func84 rfl rfl (Nat.le_of_ble_eq_true rfl) rfl hS ?_
  have hM := h
  clear h hS
  unfold ether_number.f at hM
  refine WP.seq ?_
  refine WP.run [] [0, 2] (fun _ => [(0, .iface 183 (.agg #[.string a0, .iface 30 (.int .i64 a0_1)])), (2, .int .i64 0)]) (fun _ => []) (fun _ => []) (fun _ => by kernel_rfl) (fun _ => ?_)
  refine WP.seq ?_
  refine WP.run [] [0, 2, 3] (fun b1 => [(0, .iface 183 (.agg #[.string a0, .iface 30 (.int .i64 a0_1)])), (2, .int .i64 0), (3, .pointer (some ⟨b1, 0, none⟩))]) (fun b1 => [(b1, .cells #[.int .i64 0] 30 (0, 0))]) (fun b1 => []) (fun b1 => by kernel_rfl) (fun b1 => ?_)
  refine WP.seq ?_
  refine WP.seq ?_
  refine WP.region ?_
  refine WL.run 2 [] [2, 3, 4, 5] (fun _ => [(2, .int .i64 0), (3, .pointer (some ⟨b1, 0, none⟩)), (4, .iface 183 (.agg #[.string a0, .iface 30 (.int .i64 a0_1)])), (5, .iface 175 (.pointer (some ⟨b1, 0, none⟩)))]) (fun _ => [(b1, .cells #[.int .i64 0] 30 (0, 0))]) (fun _ => []) (fun _ => by kernel_rfl) (fun _ => ?_)
  obtain ⟨⟨r2, r3⟩, h4, hM⟩ := bind_some hM
  dsimp only at hM
  refine WL.callE (X := Unit) [] [] [true] (fun _ => _) (errors_As_1_calls b1 a0 a0_1 0 _ h4) rfl rfl (fun _ h => h) (by kernel_rfl) (by kernel_rfl) (fun _ => rfl) (fun _ => ?_)
  refine WP.done ?_
  refine WP.cond r2 rfl rfl (fun c5 => ?_) (fun c5 => ?_)
  · replace hM := cond_t hM c5
    refine WP.seq ?_
    refine WP.run [0] [2] (fun _ => [(2, .int .i64 r3)]) (fun _ => [(b1, .cells #[.int .i64 r3] 30 (0, 0))]) (fun _ => [b1]) (fun _ => by kernel_rfl) (fun _ => ?_)
    refine WP.keep [false] (by kernel_rfl : _ = []) ?_
    obtain rfl := Option.some.inj hM
    exact WP.ret [] [] (.int .i64 r3) (by kernel_rfl) (fun w' hw => ⟨rfl, hw.pick [] rfl⟩)
  · replace hM := cond_f hM c5
    refine WP.skip ?_
    refine WP.seq ?_
    refine WP.run [] [2] (fun _ => [(2, .int .i64 0)]) (fun _ => [(b1, .cells #[.int .i64 r3] 30 (0, 0))]) (fun _ => []) (fun _ => by kernel_rfl) (fun _ => ?_)
    refine WP.keep [false] (by kernel_rfl : _ = []) ?_
    obtain rfl := Option.some.inj hM
    exact WP.ret [] [] (.int .i64 0) (by kernel_rfl) (fun w' hw => ⟨rfl, hw.pick [] rfl⟩)

end Go.Proofs.YtbodofjnfmjbpaaGreatDoor

namespace Go.Proofs.YtbodofjnfmjbpaaGreatDoor
open Go Eng
set_option linter.unusedVariables false
set_option linter.unusedSimpArgs false

/-! ### gangway/ether.Parse: function 50 -/
def ether_Parse.f (k : Nat) (a0 : ByteArray) : Option (api_Frame × Int) :=
  bif decide ((a0.size : Int) > 1600) then
    some ((api_Frame.mk 0 0 (api_Tag.mk false 0 false 0) 0 (⟨#[]⟩ : ByteArray)), 41)
  else
    (ether_reader_frame.f k (ether_reader.mk a0 0)).bind fun (r4, r5, r6) =>
    match r5 with
    | none =>
      (errors_Is.f 40).bind fun r9 =>
      bif r9 then
        some ((api_Frame.mk 0 0 (api_Tag.mk false 0 false 0) 0 (⟨#[]⟩ : ByteArray)), 40)
      else
        some (r4, 0)
    | some (q12, q13) =>
      (errors_Is_1.f q12 q13 40).bind fun r14 =>
      bif r14 then
        some ((api_Frame.mk 0 0 (api_Tag.mk false 0 false 0) 0 (⟨#[]⟩ : ByteArray)), 40)
      else
        (ether_number.f q12 q13).bind fun r17 =>
        some ((api_Frame.mk 0 0 (api_Tag.mk false 0 false 0) 0 (⟨#[]⟩ : ByteArray)), r17)

set_option maxRecDepth 100000 in
theorem ether_Parse_calls (k : Nat) (a0 : ByteArray) (r : api_Frame × Int) (h : ether_Parse.f k a0 = some r) : Pure Tryz.prog Glob 50 #[.string a0] (.tuple #[.agg #[.int .u64 r.1.Dst, .int .u64 r.1.Src, .bool r.1.Tag.Has, .int .i64 r.1.Tag.Pri, .bool r.1.Tag.Dei, .int .i64 r.1.Tag.Vid, .int .i64 r.1.Type_, .string r.1.Body], .int .i64 r.2]) := by
  intro w Z hS
  refine calls_of (args := [.string a0]) (L := [(0, .string a0)]) (N := 31) (S := Sat w Z [] [] Glob) Tryz.func50 rfl rfl (Nat.le_of_ble_eq_true rfl) rfl hS ?_
  have hM := h
  clear h hS
  unfold ether_Parse.f at hM
  refine WP.seq ?_
  refine WP.run [] [0, 2, 3] (fun b1 => [(0, .string a0), (2, .pointer (some ⟨b1, 0, none⟩)), (3, .int .i64 0)]) (fun b1 => [(b1, .cells #[.int .u64 0, .int .u64 0, .bool false, .int .i64 0, .bool false, .int .i64 0, .int .i64 0, .string (⟨#[]⟩ : ByteArray)] 29 (0, 0))]) (fun b1 => []) (fun b1 => by kernel_rfl) (fun b1 => ?_)
  refine WP.seq ?_
  refine WP.seq ?_
  refine WP.run [] [0, 2, 3, 9] (fun _ => [(0, .string a0), (2, .pointer (some ⟨b1, 0, none⟩)), (3, .int .i64 0), (9, .bool (decide ((a0.size : Int) > 1600)))]) (fun _ => [(b1, .cells #[.int .u64 0, .int .u64 0, .bool false, .int .i64 0, .bool false, .int .i64 0, .int .i64 0, .string (⟨#[]⟩ : ByteArray)] 29 (0, 0))]) (fun _ => []) (fun _ => by kernel_rfl) (fun _ => ?_)
  refine WP.cond (decide ((a0.size : Int) > 1600)) rfl rfl (fun c2 => ?_) (fun c2 => ?_)
  · replace hM := cond_t hM c2
    refine WP.seq ?_
    refine WP.run [0, 0, 0, 0, 0, 0, 0, 0] [0, 2, 3] (fun _ => [(0, .string a0), (2, .pointer (some ⟨b1, 0, none⟩)), (3, .int .i64 41)]) (fun _ => [(b1, .cells #[.int .u64 0, .int .u64 0, .bool false, .int .i64 0, .bool false, .int .i64 0, .int .i64 0, .string (⟨#[]⟩ : ByteArray)] 29 (0, 0))]) (fun _ => [b1, b1, b1, b1, b1, b1, b1, b1]) (fun _ => by kernel_rfl) (fun _ => ?_)
    obtain rfl := Option.some.inj hM
    exact WP.ret [0, 0, 0, 0, 0, 0, 0, 0] [b1, b1, b1, b1, b1, b1, b1, b1] (.tuple #[.agg #[.int .u64 0, .int .u64 0, .bool false, .int .i64 0, .bool false, .int .i64 0, .int .i64 0, .string (⟨#[]⟩ : ByteArray)], .int .i64 41]) (by kernel_rfl) (fun w' hw => ⟨rfl, hw.pick [] rfl⟩)
  · replace hM := cond_f hM c2
    refine WP.skip ?_
    refine WP.seq ?_
    refine WP.run [] [2, 3, 4] (fun b3 => [(2, .pointer (some ⟨b1, 0, none⟩)), (3, .int .i64 0), (4, .pointer (some ⟨b3, 0, none⟩))]) (fun b3 => [(b1, .cells #[.int .u64 0, .int .u64 0, .bool false, .int .i64 0, .bool false, .int .i64 0, .int .i64 0, .string (⟨#[]⟩ : ByteArray)] 29 (0, 0)), (b3, .cells #[.string a0, .int .i64 0] 132 (0, 0))]) (fun b3 => []) (fun b3 => by kernel_rfl) (fun b3 => ?_)
    refine WP.seq ?_
    refine WP.region ?_
    refine WL.run 1 [] [2, 3, 15] (fun _ => [(2, .pointer (some ⟨b1, 0, none⟩)), (3, .int .i64 0), (15, .pointer (some ⟨b3, 0, none⟩))]) (fun _ => [(b1, .cells #[.int .u64 0, .int .u64 0, .bool false, .int .i64 0, .bool false, .int .i64 0, .int .i64 0, .string (⟨#[]⟩ : ByteArray)] 29 (0, 0)), (b3, .cells #[.string a0, .int .i64 0] 132 (0, 0))]) (fun _ => []) (fun _ => by kernel_rfl) (fun _ => ?_)
    obtain ⟨⟨r4, r5, r6⟩, h7, hM⟩ := bind_some hM
    dsimp only at hM
    refine WL.callE (X := Unit) [] [] [false, true] (fun _ => _) (ether_reader_frame_calls k b3 (ether_reader.mk a0 0) _ h7) rfl rfl (fun _ h => h) (by kernel_rfl) (by kernel_rfl) (fun _ => rfl) (fun _ => ?_)
    refine WL.run 6 [2, 2, 2, 2, 2, 2, 2, 2] [2, 3, 5, 6] (fun b8 => [(2, .pointer (some ⟨b1, 0, none⟩)), (3, .int .i64 0), (5, .pointer (some ⟨b8, 0, none⟩)), (6, Un1.v r5)]) (fun b8 => [(b3, .cells #[.string r6.s, .int .i64 r6.at_] 132 (0, 0)), (b1, .cells #[.int .u64 0, .int .u64 0, .bool false, .int .i64 0, .bool false, .int .i64 0, .int .i64 0, .string (⟨#[]⟩ : ByteArray)] 29 (0, 0)), (b8, .cells #[.int .u64 r4.Dst, .int .u64 r4.Src, .bool r4.Tag.Has, .int .i64 r4.Tag.Pri, .bool r4.Tag.Dei, .int .i64 r4.Tag.Vid, .int .i64 r4.Type_, .string r4.Body] 29 (0, 0))]) (fun b8 => [b8, b8, b8, b8, b8, b8, b8, b8]) (fun b8 => by kernel_rfl) (fun b8 => ?_)
    refine WP.done ?_
    refine WP.keep [false, true, true] (by kernel_rfl : _ = [(b1, .cells #[.int .u64 0, .int .u64 0, .bool false, .int .i64 0, .bool false, .int .i64 0, .int .i64 0, .string (⟨#[]⟩ : ByteArray)] 29 (0, 0)), (b8, .cells #[.int .u64 r4.Dst, .int .u64 r4.Src, .bool r4.Tag.Has, .int .i64 r4.Tag.Pri, .bool r4.Tag.Dei, .int .i64 r4.Tag.Vid, .int .i64 r4.Type_, .string r4.Body] 29 (0, 0))]) ?_
    refine WP.seq ?_
    refine WP.block ?_
    refine WP.seq ?_
    refine WP.region ?_
    refine WL.run 2 [] [2, 3, 5, 6, 20, 21] (fun _ => [(2, .pointer (some ⟨b1, 0, none⟩)), (3, .int .i64 0), (5, .pointer (some ⟨b8, 0, none⟩)), (6, Un1.v r5), (20, Un1.v r5), (21, .iface 30 (.int .i64 40))]) (fun _ => [(b1, .cells #[.int .u64 0, .int .u64 0, .bool false, .int .i64 0, .bool false, .int .i64 0, .int .i64 0, .string (⟨#[]⟩ : ByteArray)] 29 (0, 0)), (b8, .cells #[.int .u64 r4.Dst, .int .u64 r4.Src, .bool r4.Tag.Has, .int .i64 r4.Tag.Pri, .bool r4.Tag.Dei, .int .i64 r4.Tag.Vid, .int .i64 r4.Type_, .string r4.Body] 29 (0, 0))]) (fun _ => []) (fun _ => by kernel_rfl) (fun _ => ?_)
    rcases r5 with _ | ⟨q12, q13⟩
    · dsimp only at hM
      obtain ⟨r9, h10, hM⟩ := bind_some hM
      refine WL.callP [] [] (errors_Is_calls 40 _ h10) (fun _ h => h) (by kernel_rfl) (by kernel_rfl) rfl ?_
      refine WL.run 1 [] [2, 3, 5, 6, 19] (fun _ => [(2, .pointer (some ⟨b1, 0, none⟩)), (3, .int .i64 0), (5, .pointer (some ⟨b8, 0, none⟩)), (6, .nilIface), (19, .bool r9)]) (fun _ => [(b1, .cells #[.int .u64 0, .int .u64 0, .bool false, .int .i64 0, .bool false, .int .i64 0, .int .i64 0, .string (⟨#[]⟩ : ByteArray)] 29 (0, 0)), (b8, .cells #[.int .u64 r4.Dst, .int .u64 r4.Src, .bool r4.Tag.Has, .int .i64 r4.Tag.Pri, .bool r4.Tag.Dei, .int .i64 r4.Tag.Vid, .int .i64 r4.Type_, .string r4.Body] 29 (0, 0))]) (fun _ => []) (fun _ => by kernel_rfl) (fun _ => ?_)
      refine WP.done ?_
      refine WP.cond r9 rfl rfl (fun c11 => ?_) (fun c11 => ?_)
      · replace hM := cond_t hM c11
        refine WP.seq ?_
        refine WP.run [0, 0, 0, 0, 0, 0, 0, 0] [2, 3, 5] (fun _ => [(2, .pointer (some ⟨b1, 0, none⟩)), (3, .int .i64 40), (5, .pointer (some ⟨b8, 0, none⟩))]) (fun _ => [(b1, .cells #[.int .u64 0, .int .u64 0, .bool false, .int .i64 0, .bool false, .int .i64 0, .int .i64 0, .string (⟨#[]⟩ : ByteArray)] 29 (0, 0)), (b8, .cells #[.int .u64 r4.Dst, .int .u64 r4.Src, .bool r4.Tag.Has, .int .i64 r4.Tag.Pri, .bool r4.Tag.Dei, .int .i64 r4.Tag.Vid, .int .i64 r4.Type_, .string r4.Body] 29 (0, 0))]) (fun _ => [b1, b1, b1, b1, b1, b1, b1, b1]) (fun _ => by kernel_rfl) (fun _ => ?_)
        obtain rfl := Option.some.inj hM
        exact WP.ret [0, 0, 0, 0, 0, 0, 0, 0] [b1, b1, b1, b1, b1, b1, b1, b1] (.tuple #[.agg #[.int .u64 0, .int .u64 0, .bool false, .int .i64 0, .bool false, .int .i64 0, .int .i64 0, .string (⟨#[]⟩ : ByteArray)], .int .i64 40]) (by kernel_rfl) (fun w' hw => ⟨rfl, hw.pick [] rfl⟩)
      · replace hM := cond_f hM c11
        refine WP.seq ?_
        refine WP.run [] [2, 3, 5, 6, 24] (fun _ => [(2, .pointer (some ⟨b1, 0, none⟩)), (3, .int .i64 0), (5, .pointer (some ⟨b8, 0, none⟩)), (6, .nilIface), (24, .bool false)]) (fun _ => [(b1, .cells #[.int .u64 0, .int .u64 0, .bool false, .int .i64 0, .bool false, .int .i64 0, .int .i64 0, .string (⟨#[]⟩ : ByteArray)] 29 (0, 0)), (b8, .cells #[.int .u64 r4.Dst, .int .u64 r4.Src, .bool r4.Tag.Has, .int .i64 r4.Tag.Pri, .bool r4.Tag.Dei, .int .i64 r4.Tag.Vid, .int .i64 r4.Type_, .string r4.Body] 29 (0, 0))]) (fun _ => []) (fun _ => by kernel_rfl) (fun _ => ?_)
        refine WP.no rfl rfl ?_
        refine WP.skip ?_
        refine WP.leave ?_
        refine WP.seq ?_
        refine WP.run [1, 1, 1, 1, 1, 1, 1, 1, 0, 0, 0, 0, 0, 0, 0, 0] [2, 3] (fun _ => [(2, .pointer (some ⟨b1, 0, none⟩)), (3, .int .i64 0)]) (fun _ => [(b1, .cells #[.int .u64 r4.Dst, .int .u64 r4.Src, .bool r4.Tag.Has, .int .i64 r4.Tag.Pri, .bool r4.Tag.Dei, .int .i64 r4.Tag.Vid, .int .i64 r4.Type_, .string r4.Body] 29 (0, 0)), (b8, .cells #[.int .u64 r4.Dst, .int .u64 r4.Src, .bool r4.Tag.Has, .int .i64 r4.Tag.Pri, .bool r4.Tag.Dei, .int .i64 r4.Tag.Vid, .int .i64 r4.Type_, .string r4.Body] 29 (0, 0))]) (fun _ => [b1, b1, b1, b1, b1, b1, b1, b1, b8, b8, b8, b8, b8, b8, b8, b8]) (fun _ => by kernel_rfl) (fun _ => ?_)
        refine WP.keep [true, false] (by kernel_rfl : _ = [(b1, .cells #[.int .u64 r4.Dst, .int .u64 r4.Src, .bool r4.Tag.Has, .int .i64 r4.Tag.Pri, .bool r4.Tag.Dei, .int .i64 r4.Tag.Vid, .int .i64 r4.Type_, .string r4.Body] 29 (0, 0))]) ?_
        obtain rfl := Option.some.inj hM
        exact WP.ret [0, 0, 0, 0, 0, 0, 0, 0] [b1, b1, b1, b1, b1, b1, b1, b1] (.tuple #[.agg #[.int .u64 r4.Dst, .int .u64 r4.Src, .bool r4.Tag.Has, .int .i64 r4.Tag.Pri, .bool r4.Tag.Dei, .int .i64 r4.Tag.Vid, .int .i64 r4.Type_, .string r4.Body], .int .i64 0]) (by kernel_rfl) (fun w' hw => ⟨rfl, hw.pick [] rfl⟩)
    · dsimp only at hM
      obtain ⟨r14, h15, hM⟩ := bind_some hM
      refine WL.callP [] [] (errors_Is_1_calls q12 q13 40 _ h15) (fun _ h => h) (by kernel_rfl) (by kernel_rfl) rfl ?_
      refine WL.run 1 [] [2, 3, 5, 6, 19] (fun _ => [(2, .pointer (some ⟨b1, 0, none⟩)), (3, .int .i64 0), (5, .pointer (some ⟨b8, 0, none⟩)), (6, .iface 183 (.agg #[.string q12, .iface 30 (.int .i64 q13)])), (19, .bool r14)]) (fun _ => [(b1, .cells #[.int .u64 0, .int .u64 0, .bool false, .int .i64 0, .bool false, .int .i64 0, .int .i64 0, .string (⟨#[]⟩ : ByteArray)] 29 (0, 0)), (b8, .cells #[.int .u64 r4.Dst, .int .u64 r4.Src, .bool r4.Tag.Has, .int .i64 r4.Tag.Pri, .bool r4.Tag.Dei, .int .i64 r4.Tag.Vid, .int .i64 r4.Type_, .string r4.Body] 29 (0, 0))]) (fun _ => []) (fun _ => by kernel_rfl) (fun _ => ?_)
      refine WP.done ?_
      refine WP.cond r14 rfl rfl (fun c16 => ?_) (fun c16 => ?_)
      · replace hM := cond_t hM c16
        refine WP.seq ?_
        refine WP.run [0, 0, 0, 0, 0, 0, 0, 0] [2, 3, 5] (fun _ => [(2, .pointer (some ⟨b1, 0, none⟩)), (3, .int .i64 40), (5, .pointer (some ⟨b8, 0, none⟩))]) (fun _ => [(b1, .cells #[.int .u64 0, .int .u64 0, .bool false, .int .i64 0, .bool false, .int .i64 0, .int .i64 0, .string (⟨#[]⟩ : ByteArray)] 29 (0, 0)), (b8, .cells #[.int .u64 r4.Dst, .int .u64 r4.Src, .bool r4.Tag.Has, .int .i64 r4.Tag.Pri, .bool r4.Tag.Dei, .int .i64 r4.Tag.Vid, .int .i64 r4.Type_, .string r4.Body] 29 (0, 0))]) (fun _ => [b1, b1, b1, b1, b1, b1, b1, b1]) (fun _ => by kernel_rfl) (fun _ => ?_)
        obtain rfl := Option.some.inj hM
        exact WP.ret [0, 0, 0, 0, 0, 0, 0, 0] [b1, b1, b1, b1, b1, b1, b1, b1] (.tuple #[.agg #[.int .u64 0, .int .u64 0, .bool false, .int .i64 0, .bool false, .int .i64 0, .int .i64 0, .string (⟨#[]⟩ : ByteArray)], .int .i64 40]) (by kernel_rfl) (fun w' hw => ⟨rfl, hw.pick [] rfl⟩)
      · replace hM := cond_f hM c16
        refine WP.seq ?_
        refine WP.run [] [2, 3, 5, 6, 24] (fun _ => [(2, .pointer (some ⟨b1, 0, none⟩)), (3, .int .i64 0), (5, .pointer (some ⟨b8, 0, none⟩)), (6, .iface 183 (.agg #[.string q12, .iface 30 (.int .i64 q13)])), (24, .bool true)]) (fun _ => [(b1, .cells #[.int .u64 0, .int .u64 0, .bool false, .int .i64 0, .bool false, .int .i64 0, .int .i64 0, .string (⟨#[]⟩ : ByteArray)] 29 (0, 0)), (b8, .cells #[.int .u64 r4.Dst, .int .u64 r4.Src, .bool r4.Tag.Has, .int .i64 r4.Tag.Pri, .bool r4.Tag.Dei, .int .i64 r4.Tag.Vid, .int .i64 r4.Type_, .string r4.Body] 29 (0, 0))]) (fun _ => []) (fun _ => by kernel_rfl) (fun _ => ?_)
        refine WP.yes rfl rfl ?_
        refine WP.seq ?_
        refine WP.region ?_
        refine WL.run 2 [] [2, 3, 5, 27, 28] (fun _ => [(2, .pointer (some ⟨b1, 0, none⟩)), (3, .int .i64 0), (5, .pointer (some ⟨b8, 0, none⟩)), (27, .agg #[.int .u64 0, .int .u64 0, .bool false, .int .i64 0, .bool false, .int .i64 0, .int .i64 0, .string (⟨#[]⟩ : ByteArray)]), (28, .iface 183 (.agg #[.string q12, .iface 30 (.int .i64 q13)]))]) (fun _ => [(b1, .cells #[.int .u64 0, .int .u64 0, .bool false, .int .i64 0, .bool false, .int .i64 0, .int .i64 0, .string (⟨#[]⟩ : ByteArray)] 29 (0, 0)), (b8, .cells #[.int .u64 r4.Dst, .int .u64 r4.Src, .bool r4.Tag.Has, .int .i64 r4.Tag.Pri, .bool r4.Tag.Dei, .int .i64 r4.Tag.Vid, .int .i64 r4.Type_, .string r4.Body] 29 (0, 0))]) (fun _ => []) (fun _ => by kernel_rfl) (fun _ => ?_)
        obtain ⟨r17, h18, hM⟩ := bind_some hM
        refine WL.callP [] [] (ether_number_calls q12 q13 _ h18) (fun _ h => h) (by kernel_rfl) (by kernel_rfl) rfl ?_
        refine WL.run 2 [0, 0, 0, 0, 0, 0, 0, 0] [2, 3, 5] (fun _ => [(2, .pointer (some ⟨b1, 0, none⟩)), (3, .int .i64 r17), (5, .pointer (some ⟨b8, 0, none⟩))]) (fun _ => [(b1, .cells #[.int .u64 0, .int .u64 0, .bool false, .int .i64 0, .bool false, .int .i64 0, .int .i64 0, .string (⟨#[]⟩ : ByteArray)] 29 (0, 0)), (b8, .cells #[.int .u64 r4.Dst, .int .u64 r4.Src, .bool r4.Tag.Has, .int .i64 r4.Tag.Pri, .bool r4.Tag.Dei, .int .i64 r4.Tag.Vid, .int .i64 r4.Type_, .string r4.Body] 29 (0, 0))]) (fun _ => [b1, b1, b1, b1, b1, b1, b1, b1]) (fun _ => by kernel_rfl) (fun _ => ?_)
        refine WP.done ?_
        obtain rfl := Option.some.inj hM
        exact WP.ret [0, 0, 0, 0, 0, 0, 0, 0] [b1, b1, b1, b1, b1, b1, b1, b1] (.tuple #[.agg #[.int .u64 0, .int .u64 0, .bool false, .int .i64 0, .bool false, .int .i64 0, .int .i64 0, .string (⟨#[]⟩ : ByteArray)], .int .i64 r17]) (by kernel_rfl) (fun w' hw => ⟨rfl, hw.pick [] rfl⟩)

end Go.Proofs.YtbodofjnfmjbpaaGreatDoor

namespace Go.Proofs.YtbodofjnfmjbpaaGreatDoor
open Go Eng
set_option linter.unusedVariables false
set_option linter.unusedSimpArgs false

/-! ### (*gangway/tunnel.opener).step: function 26 -/
def tunnel_opener_step.f (k : Nat) (a0 : (List api_Seg)) (a0_1 : Int) (a0_2 : Int) (a0_3 : ByteArray) (a0_4 : Int) (a0_5 : Int) (a0_6 : (List Int)) (a0_7 : Int) (a0_8 : Int) (a0_9 : Bool) (a0_10 : Int) (a0_11 : Bool) (a0_12 : Int) (a0_13 : Int) (a0_14 : ByteArray) (a1 : Int) : Option (Bool × Int × ByteArray × Int × Int × (List Int) × Int × Int × Bool × Int × Bool × Int × Int × ByteArray) :=
  bif (a1 == 0) then
    (vxlan_Parse.f k a0_3).bind fun (r2, r3, r4) =>
    some ((r4 == 0), r2, r3, a0_4, a0_5, a0_6, a0_7, a0_8, a0_9, a0_10, a0_11, a0_12, a0_13, a0_14)
  else
    bif (a1 == 1) then
      (vni_By.f k a0 a0_2).bind fun (r8, r9) =>
      some (r9, a0_2, a0_3, r8.Vid, r8.Vni, r8.Peers, a0_7, a0_8, a0_9, a0_10, a0_11, a0_12, a0_13, a0_14)
    else
      bif (a1 == 2) then
        (vni_Peer.f k a0 a0_2 a0_1).bind fun r14 =>
        some (r14, a0_2, a0_3, a0_4, a0_5, a0_6, a0_7, a0_8, a0_9, a0_10, a0_11, a0_12, a0_13, a0_14)
      else
        (ether_Parse.f k a0_3).bind fun (r16, r17) =>
        some (((r17 == 0) && (!r16.Tag.Has)), a0_2, a0_3, a0_4, a0_5, a0_6, r16.Dst, r16.Src, r16.Tag.Has, r16.Tag.Pri, r16.Tag.Dei, r16.Tag.Vid, r16.Type_, r16.Body)

set_option maxRecDepth 100000 in
theorem tunnel_opener_step_calls (k : Nat) (b_0 : Nat) (A00 : SkL (SkL Unit)) (A01 : SkL Unit) (a0 : (List api_Seg)) (a0_1 : Int) (a0_2 : Int) (a0_3 : ByteArray) (a0_4 : Int) (a0_5 : Int) (a0_6 : (List Int)) (a0_7 : Int) (a0_8 : Int) (a0_9 : Bool) (a0_10 : Int) (a0_11 : Bool) (a0_12 : Int) (a0_13 : Int) (a0_14 : ByteArray) (a1 : Int) (r : Bool × Int × ByteArray × Int × Int × (List Int) × Int × Int × Bool × Int × Bool × Int × Int × ByteArray) (h : tunnel_opener_step.f k a0 a0_1 a0_2 a0_3 a0_4 a0_5 a0_6 a0_7 a0_8 a0_9 a0_10 a0_11 a0_12 a0_13 a0_14 a1 = some r) : Does Tryz.prog 26 #[.pointer (some ⟨b_0, 0, none⟩), .int .i64 a1] [(b_0, .cells #[slcV A00 a0.length, .int .u32 a0_1, .int .i64 a0_2, .string a0_3, .int .i64 a0_4, .int .i64 a0_5, slcV A01 a0_6.length, .int .u64 a0_7, .int .u64 a0_8, .bool a0_9, .int .i64 a0_10, .bool a0_11, .int .i64 a0_12, .int .i64 a0_13, .string a0_14] 62 (0, 0))] ([Row 3 api_Seg.encS api_Seg.inK A00 a0, Row 1 (pl (encI .u32)) noK A01 a0_6] ++ Glob) (fun x : (SkL Unit) => .bool r.1) (fun x => [(b_0, .cells #[slcV A00 a0.length, .int .u32 a0_1, .int .i64 r.2.1, .string r.2.2.1, .int .i64 r.2.2.2.1, .int .i64 r.2.2.2.2.1, slcV x r.2.2.2.2.2.1.length, .int .u64 r.2.2.2.2.2.2.1, .int .u64 r.2.2.2.2.2.2.2.1, .bool r.2.2.2.2.2.2.2.2.1, .int .i64 r.2.2.2.2.2.2.2.2.2.1, .bool r.2.2.2.2.2.2.2.2.2.2.1, .int .i64 r.2.2.2.2.2.2.2.2.2.2.2.1, .int .i64 r.2.2.2.2.2.2.2.2.2.2.2.2.1, .string r.2.2.2.2.2.2.2.2.2.2.2.2.2] 62 (0, 0))]) (fun _ => []) (fun x => [Row 1 (pl (encI .u32)) noK x r.2.2.2.2.2.1] ++ ([Row 3 api_Seg.encS api_Seg.inK A00 a0, Row 1 (pl (encI .u32)) noK A01 a0_6] ++ Glob)) := by
  intro w Z hS
  refine calls_of (args := [.pointer (some ⟨b_0, 0, none⟩), .int .i64 a1]) (L := [(0, .pointer (some ⟨b_0, 0, none⟩)), (1, .int .i64 a1)]) (N := 88) (S := Sat w Z [(b_0, .cells #[slcV A00 a0.length, .int .u32 a0_1, .int .i64 a0_2, .string a0_3, .int .i64 a0_4, .int .i64 a0_5, slcV A01 a0_6.length, .int .u64 a0_7, .int .u64 a0_8, .bool a0_9, .int .i64 a0_10, .bool a0_11, .int .i64 a0_12, .int .i64 a0_13, .string a0_14] 62 (0, 0))] [] ([Row 3 api_Seg.encS api_Seg.inK A00 a0, Row 1 (pl (encI .u32)) noK A01 a0_6] ++ Glob)) Tryz.func26 rfl rfl (Nat.le_of_ble_eq_true rfl) rfl hS ?_
  have hM := h
  clear h hS
  unfold tunnel_opener_step.f at hM
  refine WP.seq ?_
  refine WP.run [] [0, 1, 4] (fun _ => [(0, .pointer (some ⟨b_0, 0, none⟩)), (1, .int .i64 a1), (4, .bool false)]) (fun _ => [(b_0, .cells #[slcV A00 a0.length, .int .u32 a0_1, .int .i64 a0_2, .string a0_3, .int .i64 a0_4, .int .i64 a0_5, slcV A01 a0_6.length, .int .u64 a0_7, .int .u64 a0_8, .bool a0_9, .int .i64 a0_10, .bool a0_11, .int .i64 a0_12, .int .i64 a0_13, .string a0_14] 62 (0, 0))]) (fun _ => []) (fun _ => by kernel_rfl) (fun _ => ?_)
  refine WP.seq ?_
  refine WP.seq ?_
  refine WP.run [] [0, 4, 12] (fun _ => [(0, .pointer (some ⟨b_0, 0, none⟩)), (4, .bool false), (12, .int .i64 a1)]) (fun _ => [(b_0, .cells #[slcV A00 a0.length, .int .u32 a0_1, .int .i64 a0_2, .string a0_3, .int .i64 a0_4, .int .i64 a0_5, slcV A01 a0_6.length, .int .u64 a0_7, .int .u64 a0_8, .bool a0_9, .int .i64 a0_10, .bool a0_11, .int .i64 a0_12, .int .i64 a0_13, .string a0_14] 62 (0, 0))]) (fun _ => []) (fun _ => by kernel_rfl) (fun _ => ?_)
  refine WP.block ?_
  refine WP.seq ?_
  refine WP.run [] [0, 4, 12, 13] (fun _ => [(0, .pointer (some ⟨b_0, 0, none⟩)), (4, .bool false), (12, .int .i64 a1), (13, .bool (a1 == 0))]) (fun _ => [(b_0, .cells #[slcV A00 a0.length, .int .u32 a0_1, .int .i64 a0_2, .string a0_3, .int .i64 a0_4, .int .i64 a0_5, slcV A01 a0_6.length, .int .u64 a0_7, .int .u64 a0_8, .bool a0_9, .int .i64 a0_10, .bool a0_11, .int .i64 a0_12, .int .i64 a0_13, .string a0_14] 62 (0, 0))]) (fun _ => []) (fun _ => by kernel_rfl) (fun _ => ?_)
  refine WP.cond (a1 == 0) rfl rfl (fun c1 => ?_) (fun c1 => ?_)
  · replace hM := cond_t hM c1
    refine WP.seq ?_
    refine WP.region ?_
    refine WL.run 4 [0] [0, 4, 19] (fun _ => [(0, .pointer (some ⟨b_0, 0, none⟩)), (4, .bool false), (19, .string a0_3)]) (fun _ => [(b_0, .cells #[slcV A00 a0.length, .int .u32 a0_1, .int .i64 a0_2, .string a0_3, .int .i64 a0_4, .int .i64 a0_5, slcV A01 a0_6.length, .int .u64 a0_7, .int .u64 a0_8, .bool a0_9, .int .i64 a0_10, .bool a0_11, .int .i64 a0_12, .int .i64 a0_13, .string a0_14] 62 (0, 0))]) (fun _ => [b_0]) (fun _ => by kernel_rfl) (fun _ => ?_)
    obtain ⟨⟨r2, r3, r4⟩, h5, hM⟩ := bind_some hM
    dsimp only at hM
    refine WL.callP [] [] (vxlan_Parse_calls k a0_3 _ h5) (fun _ h => List.mem_append_right _ h) (by kernel_rfl) (by kernel_rfl) rfl ?_
    refine WL.run 7 [] [0, 4, 5, 6, 7] (fun _ => [(0, .pointer (some ⟨b_0, 0, none⟩)), (4, .bool false), (5, .int .i64 r2), (6, .string r3), (7, .int .i64 r4)]) (fun _ => [(b_0, .cells #[slcV A00 a0.length, .int .u32 a0_1, .int .i64 a0_2, .string a0_3, .int .i64 a0_4, .int .i64 a0_5, slcV A01 a0_6.length, .int .u64 a0_7, .int .u64 a0_8, .bool a0_9, .int .i64 a0_10, .bool a0_11, .int .i64 a0_12, .int .i64 a0_13, .string a0_14] 62 (0, 0))]) (fun _ => []) (fun _ => by kernel_rfl) (fun _ => ?_)
    refine WP.done ?_
    refine WP.seq ?_
    refine WP.run [0, 0] [0, 4, 7] (fun _ => [(0, .pointer (some ⟨b_0, 0, none⟩)), (4, .bool false), (7, .int .i64 r4)]) (fun _ => [(b_0, .cells #[slcV A00 a0.length, .int .u32 a0_1, .int .i64 r2, .string r3, .int .i64 a0_4, .int .i64 a0_5, slcV A01 a0_6.length, .int .u64 a0_7, .int .u64 a0_8, .bool a0_9, .int .i64 a0_10, .bool a0_11, .int .i64 a0_12, .int .i64 a0_13, .string a0_14] 62 (0, 0))]) (fun _ => [b_0, b_0]) (fun _ => by kernel_rfl) (fun _ => ?_)
    refine WP.seq ?_
    refine WP.run [] [0, 4] (fun _ => [(0, .pointer (some ⟨b_0, 0, none⟩)), (4, .bool (r4 == 0))]) (fun _ => [(b_0, .cells #[slcV A00 a0.length, .int .u32 a0_1, .int .i64 r2, .string r3, .int .i64 a0_4, .int .i64 a0_5, slcV A01 a0_6.length, .int .u64 a0_7, .int .u64 a0_8, .bool a0_9, .int .i64 a0_10, .bool a0_11, .int .i64 a0_12, .int .i64 a0_13, .string a0_14] 62 (0, 0))]) (fun _ => []) (fun _ => by kernel_rfl) (fun _ => ?_)
    obtain rfl := Option.some.inj hM
    exact WP.ret [] [] (.bool (r4 == 0)) (by kernel_rfl) (fun w' hw => ⟨A01, rfl, (hw.pick [0] (by kernel_rfl)).less (sub_ret [1] [0, 1] (by kernel_rfl) (by kernel_rfl))⟩)
  · replace hM := cond_f hM c1
    refine WP.seq ?_
    refine WP.run [] [0, 4, 12, 34] (fun _ => [(0, .pointer (some ⟨b_0, 0, none⟩)), (4, .bool false), (12, .int .i64 a1), (34, .bool (a1 == 1))]) (fun _ => [(b_0, .cells #[slcV A00 a0.length, .int .u32 a0_1, .int .i64 a0_2, .string a0_3, .int .i64 a0_4, .int .i64 a0_5, slcV A01 a0_6.length, .int .u64 a0_7, .int .u64 a0_8, .bool a0_9, .int .i64 a0_10, .bool a0_11, .int .i64 a0_12, .int .i64 a0_13, .string a0_14] 62 (0, 0))]) (fun _ => []) (fun _ => by kernel_rfl) (fun _ => ?_)
    refine WP.cond (a1 == 1) rfl rfl (fun c6 => ?_) (fun c6 => ?_)
    · replace hM := cond_t hM c6
      refine WP.seq ?_
      obtain ⟨⟨r8, r9⟩, h10, hM⟩ := bind_some hM
      dsimp only at hM
      refine WP.sub [0, 4] (L' := [(0, .pointer (some ⟨b_0, 0, none⟩)), (4, .bool false)]) (by kernel_rfl) ?_
      refine WP.mixed (X := (SkL Unit)) 14 [.val (.pointer (some ⟨b_0, 0, none⟩)), .val (.pointer (some ⟨b_0, 0, none⟩)), .val (.pointer (some ⟨b_0, 0, none⟩)), .val (slcV A00 a0.length), .val (.pointer (some ⟨b_0, 0, none⟩)), .val (.pointer (some ⟨b_0, 0, none⟩)), .val (.pointer (some ⟨b_0, 2, none⟩)), .val (.int .i64 a0_2), .ex [] (fun tt => .tuple #[.agg #[.int .i64 r8.Vid, .int .i64 r8.Vni, slcV (tt 8) r8.Peers.length], .bool r9]) (fun tt => [Row 1 (pl (encI .u32)) noK (tt 8) r8.Peers]), .valX [8] (fun tt => .tuple #[.agg #[.int .i64 r8.Vid, .int .i64 r8.Vni, slcV (tt 8) r8.Peers.length], .bool r9]), .valX [8] (fun tt => .agg #[.int .i64 r8.Vid, .int .i64 r8.Vni, slcV (tt 8) r8.Peers.length]), .val (.bool r9), .alloc (.cells #[.int .i64 0, .int .i64 0, .slice none 0 0] 35 (0, 0)) (fun b => .pointer (some ⟨b, 0, none⟩)), .fill 12 [8] (fun tt => .cells #[.int .i64 r8.Vid, .int .i64 r8.Vni, slcV (tt 8) r8.Peers.length] 35 (0, 0))] [(b_0, .cells #[slcV A00 a0.length, .int .u32 a0_1, .int .i64 a0_2, .string a0_3, .int .i64 a0_4, .int .i64 a0_5, slcV A01 a0_6.length, .int .u64 a0_7, .int .u64 a0_8, .bool a0_9, .int .i64 a0_10, .bool a0_11, .int .i64 a0_12, .int .i64 a0_13, .string a0_14] 62 (0, 0))] [] (by kernel_rfl) (by kernel_rfl) (by kernel_rfl) (by kernel_rfl) (Heads.val (fun tt Ψ => OpV.run [] [] (by kernel_rfl) (fun _ => by kernel_rfl)) (Heads.val (fun tt Ψ => OpV.run [] [] (by kernel_rfl) (fun _ => by kernel_rfl)) (Heads.val (fun tt Ψ => OpV.run [] [] (by kernel_rfl) (fun _ => by kernel_rfl)) (Heads.val (fun tt Ψ => OpV.run [0] [b_0] (by kernel_rfl) (fun _ => by kernel_rfl)) (Heads.val (fun tt Ψ => OpV.run [] [] (by kernel_rfl) (fun _ => by kernel_rfl)) (Heads.val (fun tt Ψ => OpV.run [] [] (by kernel_rfl) (fun _ => by kernel_rfl)) (Heads.val (fun tt Ψ => OpV.run [] [] (by kernel_rfl) (fun _ => by kernel_rfl)) (Heads.val (fun tt Ψ => OpV.run [0] [b_0] (by kernel_rfl) (fun _ => by kernel_rfl)) (Heads.ex (fun x x' h => ⟨(by first | rfl | simp only [h 8 (List.mem_cons_self ..)]), (by first | rfl | simp only [h 8 (List.mem_cons_self ..)])⟩) (fun tt Ψ hΨ => OpX.callX (F0 := [Row 3 api_Seg.encS api_Seg.inK A00 a0]) (fun u => u) [] [] (app2 (mem2 (List.mem_append_right _ (fact_at 0 rfl)) no_facts) (fun _ h => (List.mem_append_right _ (List.mem_append_right _ h)))) (fun _ h => h) (vni_By_calls k A00 a0 a0_2 _ h10) (fun x => ⟨x, rfl⟩) (fun _ => by kernel_rfl) (fun _ => by kernel_rfl) (fun _ => by kernel_rfl)) (Heads.valX (fun x x' h => (by first | rfl | simp only [h 8 (List.mem_of_getElem? (i := 0) rfl)])) (fun tt Ψ hΨ => OpV.run [] [] (by kernel_rfl) (fun _ => by kernel_rfl)) (Heads.valX (fun x x' h => (by first | rfl | simp only [h 8 (List.mem_of_getElem? (i := 0) rfl)])) (fun tt Ψ hΨ => OpV.run [] [] (by kernel_rfl) (fun _ => by kernel_rfl)) (Heads.val (fun tt Ψ => OpV.run [] [] (by kernel_rfl) (fun _ => by kernel_rfl)) (Heads.alloc (fun _ => by kernel_rfl) (fun _ _ => by kernel_rfl) (Heads.fill (fun x x' h => (by first | rfl | simp only [h 8 (List.mem_of_getElem? (i := 0) rfl)])) 8 (fun b => .pointer (some ⟨b, 0, none⟩)) (.cells #[.int .i64 0, .int .i64 0, .slice none 0 0] 35 (0, 0)) rfl rfl (fun tt Ψ => OpF.run [1, 1, 1] (fun b => [b, b, b]) (fun _ => by kernel_rfl) (fun _ _ _ => by kernel_rfl) (fun _ _ _ => by kernel_rfl)) Heads.nil)))))))))))))) (fun s7 tt => [(37, .pointer (some ⟨b_0, 0, none⟩)), (38, .pointer (some ⟨b_0, 0, none⟩)), (39, .pointer (some ⟨b_0, 0, none⟩)), (40, slcV A00 a0.length), (41, .pointer (some ⟨b_0, 0, none⟩)), (42, .pointer (some ⟨b_0, 0, none⟩)), (43, .pointer (some ⟨b_0, 2, none⟩)), (44, .int .i64 a0_2), (45, .tuple #[.agg #[.int .i64 r8.Vid, .int .i64 r8.Vni, slcV (tt 8) r8.Peers.length], .bool r9]), (36, .tuple #[.agg #[.int .i64 r8.Vid, .int .i64 r8.Vni, slcV (tt 8) r8.Peers.length], .bool r9]), (46, .agg #[.int .i64 r8.Vid, .int .i64 r8.Vni, slcV (tt 8) r8.Peers.length]), (47, .bool r9), (8, .pointer (some ⟨(s7 12), 0, none⟩)), (0, .pointer (some ⟨b_0, 0, none⟩)), (4, .bool false)]) (fun s7 tt => [(b_0, .cells #[slcV A00 a0.length, .int .u32 a0_1, .int .i64 a0_2, .string a0_3, .int .i64 a0_4, .int .i64 a0_5, slcV A01 a0_6.length, .int .u64 a0_7, .int .u64 a0_8, .bool a0_9, .int .i64 a0_10, .bool a0_11, .int .i64 a0_12, .int .i64 a0_13, .string a0_14] 62 (0, 0)), ((s7 12), .cells #[.int .i64 r8.Vid, .int .i64 r8.Vni, slcV (tt 8) r8.Peers.length] 35 (0, 0))]) (fun tt => ([Row 1 (pl (encI .u32)) noK (tt 8) r8.Peers] ++ [Row 3 api_Seg.encS api_Seg.inK A00 a0, Row 1 (pl (encI .u32)) noK A01 a0_6]) ++ Glob) (fun _ _ => by kernel_rfl) (fun _ _ => by kernel_rfl) (fun _ => by kernel_rfl) (fun s7 tt => ?_)
      generalize s7 12 = b12
      generalize (tt 8) = A11
      refine WL.run 1 [] [0, 4, 8, 9] (fun _ => [(0, .pointer (some ⟨b_0, 0, none⟩)), (4, .bool false), (8, .pointer (some ⟨b12, 0, none⟩)), (9, .bool r9)]) (fun _ => [(b_0, .cells #[slcV A00 a0.length, .int .u32 a0_1, .int .i64 a0_2, .string a0_3, .int .i64 a0_4, .int .i64 a0_5, slcV A01 a0_6.length, .int .u64 a0_7, .int .u64 a0_8, .bool a0_9, .int .i64 a0_10, .bool a0_11, .int .i64 a0_12, .int .i64 a0_13, .string a0_14] 62 (0, 0)), (b12, .cells #[.int .i64 r8.Vid, .int .i64 r8.Vni, slcV A11 r8.Peers.length] 35 (0, 0))]) (fun _ => []) (fun _ => by kernel_rfl) (fun _ => ?_)
      refine WP.done ?_
      refine WP.seq ?_
      refine WP.run [1, 1, 1, 0, 0, 0] [0, 4, 9] (fun _ => [(0, .pointer (some ⟨b_0, 0, none⟩)), (4, .bool false), (9, .bool r9)]) (fun _ => [(b_0, .cells #[slcV A00 a0.length, .int .u32 a0_1, .int .i64 a0_2, .string a0_3, .int .i64 r8.Vid, .int .i64 r8.Vni, slcV A11 r8.Peers.length, .int .u64 a0_7, .int .u64 a0_8, .bool a0_9, .int .i64 a0_10, .bool a0_11, .int .i64 a0_12, .int .i64 a0_13, .string a0_14] 62 (0, 0)), (b12, .cells #[.int .i64 r8.Vid, .int .i64 r8.Vni, slcV A11 r8.Peers.length] 35 (0, 0))]) (fun _ => [b_0, b_0, b_0, b12, b12, b12]) (fun _ => by kernel_rfl) (fun _ => ?_)
      refine WP.keep [true, false] (by kernel_rfl : _ = [(b_0, .cells #[slcV A00 a0.length, .int .u32 a0_1, .int .i64 a0_2, .string a0_3, .int .i64 r8.Vid, .int .i64 r8.Vni, slcV A11 r8.Peers.length, .int .u64 a0_7, .int .u64 a0_8, .bool a0_9, .int .i64 a0_10, .bool a0_11, .int .i64 a0_12, .int .i64 a0_13, .string a0_14] 62 (0, 0))]) ?_
      refine WP.seq ?_
      refine WP.run [] [0, 4] (fun _ => [(0, .pointer (some ⟨b_0, 0, none⟩)), (4, .bool r9)]) (fun _ => [(b_0, .cells #[slcV A00 a0.length, .int .u32 a0_1, .int .i64 a0_2, .string a0_3, .int .i64 r8.Vid, .int .i64 r8.Vni, slcV A11 r8.Peers.length, .int .u64 a0_7, .int .u64 a0_8, .bool a0_9, .int .i64 a0_10, .bool a0_11, .int .i64 a0_12, .int .i64 a0_13, .string a0_14] 62 (0, 0))]) (fun _ => []) (fun _ => by kernel_rfl) (fun _ => ?_)
      obtain rfl := Option.some.inj hM
      exact WP.ret [] [] (.bool r9) (by kernel_rfl) (fun w' hw => ⟨A11, rfl, (hw.pick [0] (by kernel_rfl)).less (sub_ret [0] [1, 2] (by kernel_rfl) (by kernel_rfl))⟩)
    · replace hM := cond_f hM c6
      refine WP.seq ?_
      refine WP.run [] [0, 4, 53] (fun _ => [(0, .pointer (some ⟨b_0, 0, none⟩)), (4, .bool false), (53, .bool (a1 == 2))]) (fun _ => [(b_0, .cells #[slcV A00 a0.length, .int .u32 a0_1, .int .i64 a0_2, .string a0_3, .int .i64 a0_4, .int .i64 a0_5, slcV A01 a0_6.length, .int .u64 a0_7, .int .u64 a0_8, .bool a0_9, .int .i64 a0_10, .bool a0_11, .int .i64 a0_12, .int .i64 a0_13, .string a0_14] 62 (0, 0))]) (fun _ => []) (fun _ => by kernel_rfl) (fun _ => ?_)
      refine WP.cond (a1 == 2) rfl rfl (fun c13 => ?_) (fun c13 => ?_)
      · replace hM := cond_t hM c13
        refine WP.seq ?_
        refine WP.quiet (by kernel_rfl) (by kernel_rfl) ?_
        refine QL.run 12 [0, 0, 0] [0, 4, 58, 62, 66] [b_0, b_0, b_0] [(0, .pointer (some ⟨b_0, 0, none⟩)), (4, .bool false), (58, slcV A00 a0.length), (62, .int .i64 a0_2), (66, .int .u32 a0_1)] (by kernel_rfl) ?_
        obtain ⟨r14, h15, hM⟩ := bind_some hM
        refine QL.callP [] [] (vni_Peer_calls k A00 a0 a0_2 a0_1 _ h15) (sub_pick [0] (by kernel_rfl)) (by kernel_rfl) (by kernel_rfl) rfl ?_
        refine QL.run 1 [] [0, 4] [] [(0, .pointer (some ⟨b_0, 0, none⟩)), (4, .bool r14)] (by kernel_rfl) ?_
        refine QL.done ?_
        obtain rfl := Option.some.inj hM
        exact WP.ret [] [] (.bool r14) (by kernel_rfl) (fun w' hw => ⟨A01, rfl, (hw.pick [0] (by kernel_rfl)).less (sub_ret [1] [0, 1] (by kernel_rfl) (by kernel_rfl))⟩)
      · replace hM := cond_f hM c13
        refine WP.skip ?_
        refine WP.leave ?_
        refine WP.seq ?_
        refine WP.region ?_
        refine WL.run 4 [0] [0, 4, 72] (fun _ => [(0, .pointer (some ⟨b_0, 0, none⟩)), (4, .bool false), (72, .string a0_3)]) (fun _ => [(b_0, .cells #[slcV A00 a0.length, .int .u32 a0_1, .int .i64 a0_2, .string a0_3, .int .i64 a0_4, .int .i64 a0_5, slcV A01 a0_6.length, .int .u64 a0_7, .int .u64 a0_8, .bool a0_9, .int .i64 a0_10, .bool a0_11, .int .i64 a0_12, .int .i64 a0_13, .string a0_14] 62 (0, 0))]) (fun _ => [b_0]) (fun _ => by kernel_rfl) (fun _ => ?_)
        obtain ⟨⟨r16, r17⟩, h18, hM⟩ := bind_some hM
        dsimp only at hM
        refine WL.callP [] [] (ether_Parse_calls k a0_3 _ h18) (fun _ h => List.mem_append_right _ h) (by kernel_rfl) (by kernel_rfl) rfl ?_
        refine WL.run 6 [1, 1, 1, 1, 1, 1, 1, 1] [0, 4, 10, 11] (fun b19 => [(0, .pointer (some ⟨b_0, 0, none⟩)), (4, .bool false), (10, .pointer (some ⟨b19, 0, none⟩)), (11, .int .i64 r17)]) (fun b19 => [(b_0, .cells #[slcV A00 a0.length, .int .u32 a0_1, .int .i64 a0_2, .string a0_3, .int .i64 a0_4, .int .i64 a0_5, slcV A01 a0_6.length, .int .u64 a0_7, .int .u64 a0_8, .bool a0_9, .int .i64 a0_10, .bool a0_11, .int .i64 a0_12, .int .i64 a0_13, .string a0_14] 62 (0, 0)), (b19, .cells #[.int .u64 r16.Dst, .int .u64 r16.Src, .bool r16.Tag.Has, .int .i64 r16.Tag.Pri, .bool r16.Tag.Dei, .int .i64 r16.Tag.Vid, .int .i64 r16.Type_, .string r16.Body] 29 (0, 0))]) (fun b19 => [b19, b19, b19, b19, b19, b19, b19, b19]) (fun b19 => by kernel_rfl) (fun b19 => ?_)
        refine WP.done ?_
        refine WP.seq ?_
        refine WP.run [1, 1, 1, 1, 1, 1, 1, 1, 0, 0, 0, 0, 0, 0, 0, 0] [4, 10, 11] (fun _ => [(4, .bool false), (10, .pointer (some ⟨b19, 0, none⟩)), (11, .int .i64 r17)]) (fun _ => [(b_0, .cells #[slcV A00 a0.length, .int .u32 a0_1, .int .i64 a0_2, .string a0_3, .int .i64 a0_4, .int .i64 a0_5, slcV A01 a0_6.length, .int .u64 r16.Dst, .int .u64 r16.Src, .bool r16.Tag.Has, .int .i64 r16.Tag.Pri, .bool r16.Tag.Dei, .int .i64 r16.Tag.Vid, .int .i64 r16.Type_, .string r16.Body] 62 (0, 0)), (b19, .cells #[.int .u64 r16.Dst, .int .u64 r16.Src, .bool r16.Tag.Has, .int .i64 r16.Tag.Pri, .bool r16.Tag.Dei, .int .i64 r16.Tag.Vid, .int .i64 r16.Type_, .string r16.Body] 29 (0, 0))]) (fun _ => [b_0, b_0, b_0, b_0, b_0, b_0, b_0, b_0, b19, b19, b19, b19, b19, b19, b19, b19]) (fun _ => by kernel_rfl) (fun _ => ?_)
        refine WP.seq ?_
        refine WP.region ?_
        refine WL.run 3 [] [4, 10, 82] (fun _ => [(4, .bool false), (10, .pointer (some ⟨b19, 0, none⟩)), (82, .bool (r17 == 0))]) (fun _ => [(b_0, .cells #[slcV A00 a0.length, .int .u32 a0_1, .int .i64 a0_2, .string a0_3, .int .i64 a0_4, .int .i64 a0_5, slcV A01 a0_6.length, .int .u64 r16.Dst, .int .u64 r16.Src, .bool r16.Tag.Has, .int .i64 r16.Tag.Pri, .bool r16.Tag.Dei, .int .i64 r16.Tag.Vid, .int .i64 r16.Type_, .string r16.Body] 62 (0, 0)), (b19, .cells #[.int .u64 r16.Dst, .int .u64 r16.Src, .bool r16.Tag.Has, .int .i64 r16.Tag.Pri, .bool r16.Tag.Dei, .int .i64 r16.Tag.Vid, .int .i64 r16.Type_, .string r16.Body] 29 (0, 0))]) (fun _ => []) (fun _ => by kernel_rfl) (fun _ => ?_)
        refine WL.sub [4, 10, 82] (L' := [(4, .bool false), (10, .pointer (some ⟨b19, 0, none⟩)), (82, .bool (r17 == 0))]) (by kernel_rfl) ?_
        refine WL.both (fun b' => [(4, .bool false), (10, .pointer (some ⟨b19, 0, none⟩)), (82, .bool b')]) (r17 == 0) 5 [1] [] [4, 87] (fun b' => [(4, .bool false), (87, .bool (b' && (!r16.Tag.Has)))]) [b19] [] (fun _ => by kernel_rfl) (fun _ => by kernel_rfl) ?_
        refine WL.run 1 [] [4] (fun _ => [(4, .bool ((r17 == 0) && (!r16.Tag.Has)))]) (fun _ => [(b_0, .cells #[slcV A00 a0.length, .int .u32 a0_1, .int .i64 a0_2, .string a0_3, .int .i64 a0_4, .int .i64 a0_5, slcV A01 a0_6.length, .int .u64 r16.Dst, .int .u64 r16.Src, .bool r16.Tag.Has, .int .i64 r16.Tag.Pri, .bool r16.Tag.Dei, .int .i64 r16.Tag.Vid, .int .i64 r16.Type_, .string r16.Body] 62 (0, 0)), (b19, .cells #[.int .u64 r16.Dst, .int .u64 r16.Src, .bool r16.Tag.Has, .int .i64 r16.Tag.Pri, .bool r16.Tag.Dei, .int .i64 r16.Tag.Vid, .int .i64 r16.Type_, .string r16.Body] 29 (0, 0))]) (fun _ => []) (fun _ => by kernel_rfl) (fun _ => ?_)
        refine WP.done ?_
        refine WP.keep [true, false] (by kernel_rfl : _ = [(b_0, .cells #[slcV A00 a0.length, .int .u32 a0_1, .int .i64 a0_2, .string a0_3, .int .i64 a0_4, .int .i64 a0_5, slcV A01 a0_6.length, .int .u64 r16.Dst, .int .u64 r16.Src, .bool r16.Tag.Has, .int .i64 r16.Tag.Pri, .bool r16.Tag.Dei, .int .i64 r16.Tag.Vid, .int .i64 r16.Type_, .string r16.Body] 62 (0, 0))]) ?_
        obtain rfl := Option.some.inj hM
        exact WP.ret [] [] (.bool ((r17 == 0) && (!r16.Tag.Has))) (by kernel_rfl) (fun w' hw => ⟨A01, rfl, (hw.pick [0] (by kernel_rfl)).less (sub_ret [1] [0, 1] (by kernel_rfl) (by kernel_rfl))⟩)

end Go.Proofs.YtbodofjnfmjbpaaGreatDoor

namespace Go.Proofs.YtbodofjnfmjbpaaGreatDoor
open Go Eng
set_option linter.unusedVariables false
set_option linter.unusedSimpArgs false

/-! ### gangway/tunnel.Unwrap: function 12 -/
def tunnel_Unwrap.k1 (x75 : Int) (x76 : Int) (x77 : ByteArray) (x78 : Int) (x79 : Int) (x80 : (List Int)) (x82 : Int) (x83 : Int) (x84 : Bool) (x85 : Int) (x86 : Bool) (x87 : Int) (x88 : Int) (x89 : ByteArray) : Option (api_Seg × api_Frame × Int) :=
  some ((api_Seg.mk x78 x79 x80), (api_Frame.mk x82 x83 (api_Tag.mk x84 x85 x86 x87) x88 x89), 0)

def tunnel_Unwrap.f (k : Nat) (a0 : (List api_Seg)) (a1 : Int) (a2 : api_Udp) : Option (api_Seg × api_Frame × Int) :=
  (tunnel_opener_step.f k a0 a1 0 a2.Body 0 0 ([] : List Int) 0 0 false 0 false 0 0 (⟨#[]⟩ : ByteArray) 0).bind fun (r7, r8, r9, r10, r11, r12, r13, r14, r15, r16, r17, r18, r19, r20) =>
  bif !r7 then
    some ((api_Seg.mk 0 0 ([] : List Int)), (api_Frame.mk 0 0 (api_Tag.mk false 0 false 0) 0 (⟨#[]⟩ : ByteArray)), 1)
  else
    (tunnel_opener_step.f k a0 a1 r8 r9 r10 r11 r12 r13 r14 r15 r16 r17 r18 r19 r20 1).bind fun (r24, r25, r26, r27, r28, r29, r30, r31, r32, r33, r34, r35, r36, r37) =>
    bif !r24 then
      some ((api_Seg.mk 0 0 ([] : List Int)), (api_Frame.mk 0 0 (api_Tag.mk false 0 false 0) 0 (⟨#[]⟩ : ByteArray)), 2)
    else
      (tunnel_opener_step.f k a0 a1 r25 r26 r27 r28 r29 r30 r31 r32 r33 r34 r35 r36 r37 2).bind fun (r41, r42, r43, r44, r45, r46, r47, r48, r49, r50, r51, r52, r53, r54) =>
      bif !r41 then
        some ((api_Seg.mk 0 0 ([] : List Int)), (api_Frame.mk 0 0 (api_Tag.mk false 0 false 0) 0 (⟨#[]⟩ : ByteArray)), 3)
      else
        (tunnel_opener_step.f k a0 a1 r42 r43 r44 r45 r46 r47 r48 r49 r50 r51 r52 r53 r54 3).bind fun (r58, r59, r60, r61, r62, r63, r64, r65, r66, r67, r68, r69, r70, r71) =>
        bif !r58 then
          some ((api_Seg.mk 0 0 ([] : List Int)), (api_Frame.mk 0 0 (api_Tag.mk false 0 false 0) 0 (⟨#[]⟩ : ByteArray)), 4)
        else
          tunnel_Unwrap.k1 0 r59 r60 r61 r62 r63 r64 r65 r66 r67 r68 r69 r70 r71

set_option maxRecDepth 100000 in
theorem tunnel_Unwrap_calls (k : Nat) (A00 : SkL (SkL Unit)) (a0 : (List api_Seg)) (a1 : Int) (a2 : api_Udp) (r : api_Seg × api_Frame × Int) (h : tunnel_Unwrap.f k a0 a1 a2 = some r) : Does Tryz.prog 12 #[slcV A00 a0.length, .int .u32 a1, .agg #[.int .i64 a2.Src, .int .i64 a2.Dst, .bool a2.NoSum, .string a2.Body]] [] ([Row 3 api_Seg.encS api_Seg.inK A00 a0] ++ Glob) (fun x : (SkL Unit) => .tuple #[.agg #[.int .i64 r.1.Vid, .int .i64 r.1.Vni, slcV x r.1.Peers.length], .agg #[.int .u64 r.2.1.Dst, .int .u64 r.2.1.Src, .bool r.2.1.Tag.Has, .int .i64 r.2.1.Tag.Pri, .bool r.2.1.Tag.Dei, .int .i64 r.2.1.Tag.Vid, .int .i64 r.2.1.Type_, .string r.2.1.Body], .int .i64 r.2.2]) (fun x => []) (fun _ => []) (fun x => [Row 1 (pl (encI .u32)) noK x r.1.Peers] ++ ([Row 3 api_Seg.encS api_Seg.inK A00 a0] ++ Glob)) := by
  intro w Z hS
  refine calls_of (args := [slcV A00 a0.length, .int .u32 a1, .agg #[.int .i64 a2.Src, .int .i64 a2.Dst, .bool a2.NoSum, .string a2.Body]]) (L := [(0, slcV A00 a0.length), (1, .int .u32 a1), (2, .agg #[.int .i64 a2.Src, .int .i64 a2.Dst, .bool a2.NoSum, .string a2.Body])]) (N := 41) (S := Sat w Z [] [] ([Row 3 api_Seg.encS api_Seg.inK A00 a0] ++ Glob)) Tryz.func12 rfl rfl (Nat.le_of_ble_eq_true rfl) rfl hS ?_
  have hM := h
  clear h hS
  unfold tunnel_Unwrap.f at hM
  refine WP.seq ?_
  refine WP.run [] [0, 1, 5, 6, 7, 8] (fun b1 => [(0, slcV A00 a0.length), (1, .int .u32 a1), (5, .pointer (some ⟨b1, 0, none⟩)), (6, .pointer (some ⟨(b1 + 1), 0, none⟩)), (7, .pointer (some ⟨(b1 + 2), 0, none⟩)), (8, .int .i64 0)]) (fun b1 => [(b1, .cells #[.int .i64 a2.Src, .int .i64 a2.Dst, .bool a2.NoSum, .string a2.Body] 40 (0, 0)), ((b1 + 1), .cells #[.int .i64 0, .int .i64 0, .slice none 0 0] 35 (0, 0)), ((b1 + 2), .cells #[.int .u64 0, .int .u64 0, .bool false, .int .i64 0, .bool false, .int .i64 0, .int .i64 0, .string (⟨#[]⟩ : ByteArray)] 29 (0, 0))]) (fun b1 => []) (fun b1 => by kernel_rfl) (fun b1 => ?_)
  refine WP.seq ?_
  refine WP.run [0] [6, 7, 8, 9] (fun b2 => [(6, .pointer (some ⟨(b1 + 1), 0, none⟩)), (7, .pointer (some ⟨(b1 + 2), 0, none⟩)), (8, .int .i64 0), (9, .pointer (some ⟨b2, 0, none⟩))]) (fun b2 => [(b1, .cells #[.int .i64 a2.Src, .int .i64 a2.Dst, .bool a2.NoSum, .string a2.Body] 40 (0, 0)), ((b1 + 1), .cells #[.int .i64 0, .int .i64 0, .slice none 0 0] 35 (0, 0)), ((b1 + 2), .cells #[.int .u64 0, .int .u64 0, .bool false, .int .i64 0, .bool false, .int .i64 0, .int .i64 0, .string (⟨#[]⟩ : ByteArray)] 29 (0, 0)), (b2, .cells #[slcV A00 a0.length, .int .u32 a1, .int .i64 0, .string a2.Body, .int .i64 0, .int .i64 0, .slice none 0 0, .int .u64 0, .int .u64 0, .bool false, .int .i64 0, .bool false, .int .i64 0, .int .i64 0, .string (⟨#[]⟩ : ByteArray)] 62 (0, 0))]) (fun b2 => [b1]) (fun b2 => by kernel_rfl) (fun b2 => ?_)
  refine WP.keep [false, true, true, true] (by kernel_rfl : _ = [((b1 + 1), .cells #[.int .i64 0, .int .i64 0, .slice none 0 0] 35 (0, 0)), ((b1 + 2), .cells #[.int .u64 0, .int .u64 0, .bool false, .int .i64 0, .bool false, .int .i64 0, .int .i64 0, .string (⟨#[]⟩ : ByteArray)] 29 (0, 0)), (b2, .cells #[slcV A00 a0.length, .int .u32 a1, .int .i64 0, .string a2.Body, .int .i64 0, .int .i64 0, .slice none 0 0, .int .u64 0, .int .u64 0, .bool false, .int .i64 0, .bool false, .int .i64 0, .int .i64 0, .string (⟨#[]⟩ : ByteArray)] 62 (0, 0))]) ?_
  refine WP.seq ?_
  refine WP.run [3, 3, 3, 3] [6, 7, 8, 9, 10] (fun b3 => [(6, .pointer (some ⟨(b1 + 1), 0, none⟩)), (7, .pointer (some ⟨(b1 + 2), 0, none⟩)), (8, .int .i64 0), (9, .pointer (some ⟨b2, 0, none⟩)), (10, .pointer (some ⟨b3, 0, none⟩))]) (fun b3 => [((b1 + 1), .cells #[.int .i64 0, .int .i64 0, .slice none 0 0] 35 (0, 0)), ((b1 + 2), .cells #[.int .u64 0, .int .u64 0, .bool false, .int .i64 0, .bool false, .int .i64 0, .int .i64 0, .string (⟨#[]⟩ : ByteArray)] 29 (0, 0)), (b2, .cells #[slcV A00 a0.length, .int .u32 a1, .int .i64 0, .string a2.Body, .int .i64 0, .int .i64 0, .slice none 0 0, .int .u64 0, .int .u64 0, .bool false, .int .i64 0, .bool false, .int .i64 0, .int .i64 0, .string (⟨#[]⟩ : ByteArray)] 62 (0, 0)), (b3, .cells #[.int .i64 1, .int .i64 2, .int .i64 3, .int .i64 4] 63 (0, 0))]) (fun b3 => [b3, b3, b3, b3]) (fun b3 => by kernel_rfl) (fun b3 => ?_)
  refine WP.seq ?_
  refine WP.seq ?_
  refine WP.run [3, 3, 3, 3] [6, 7, 8, 9, 20, 21] (fun _ => [(6, .pointer (some ⟨(b1 + 1), 0, none⟩)), (7, .pointer (some ⟨(b1 + 2), 0, none⟩)), (8, .int .i64 0), (9, .pointer (some ⟨b2, 0, none⟩)), (20, .agg #[.int .i64 1, .int .i64 2, .int .i64 3, .int .i64 4]), (21, .int .i64 0)]) (fun _ => [((b1 + 1), .cells #[.int .i64 0, .int .i64 0, .slice none 0 0] 35 (0, 0)), ((b1 + 2), .cells #[.int .u64 0, .int .u64 0, .bool false, .int .i64 0, .bool false, .int .i64 0, .int .i64 0, .string (⟨#[]⟩ : ByteArray)] 29 (0, 0)), (b2, .cells #[slcV A00 a0.length, .int .u32 a1, .int .i64 0, .string a2.Body, .int .i64 0, .int .i64 0, .slice none 0 0, .int .u64 0, .int .u64 0, .bool false, .int .i64 0, .bool false, .int .i64 0, .int .i64 0, .string (⟨#[]⟩ : ByteArray)] 62 (0, 0)), (b3, .cells #[.int .i64 1, .int .i64 2, .int .i64 3, .int .i64 4] 63 (0, 0))]) (fun _ => [b3, b3, b3, b3]) (fun _ => by kernel_rfl) (fun _ => ?_)
  refine WP.keep [true, true, true, false] (by kernel_rfl : _ = [((b1 + 1), .cells #[.int .i64 0, .int .i64 0, .slice none 0 0] 35 (0, 0)), ((b1 + 2), .cells #[.int .u64 0, .int .u64 0, .bool false, .int .i64 0, .bool false, .int .i64 0, .int .i64 0, .string (⟨#[]⟩ : ByteArray)] 29 (0, 0)), (b2, .cells #[slcV A00 a0.length, .int .u32 a1, .int .i64 0, .string a2.Body, .int .i64 0, .int .i64 0, .slice none 0 0, .int .u64 0, .int .u64 0, .bool false, .int .i64 0, .bool false, .int .i64 0, .int .i64 0, .string (⟨#[]⟩ : ByteArray)] 62 (0, 0))]) ?_
  refine WP.blockJoin (σ := Int × Int × ByteArray × Int × Int × (List Int) × SkL Unit × Int × Int × Bool × Int × Bool × Int × Int × ByteArray) (fun st => tunnel_Unwrap.k1 st.1 st.2.1 st.2.2.1 st.2.2.2.1 st.2.2.2.2.1 st.2.2.2.2.2.1 st.2.2.2.2.2.2.2.1 st.2.2.2.2.2.2.2.2.1 st.2.2.2.2.2.2.2.2.2.1 st.2.2.2.2.2.2.2.2.2.2.1 st.2.2.2.2.2.2.2.2.2.2.2.1 st.2.2.2.2.2.2.2.2.2.2.2.2.1 st.2.2.2.2.2.2.2.2.2.2.2.2.2.1 st.2.2.2.2.2.2.2.2.2.2.2.2.2.2 = some r) (fun st => [(6, .pointer (some ⟨(b1 + 1), 0, none⟩)), (7, .pointer (some ⟨(b1 + 2), 0, none⟩)), (8, .int .i64 st.1), (9, .pointer (some ⟨b2, 0, none⟩))]) (fun st => Sat w Z [((b1 + 1), .cells #[.int .i64 0, .int .i64 0, .slice none 0 0] 35 (0, 0)), ((b1 + 2), .cells #[.int .u64 0, .int .u64 0, .bool false, .int .i64 0, .bool false, .int .i64 0, .int .i64 0, .string (⟨#[]⟩ : ByteArray)] 29 (0, 0)), (b2, .cells #[slcV A00 a0.length, .int .u32 a1, .int .i64 st.2.1, .string st.2.2.1, .int .i64 st.2.2.2.1, .int .i64 st.2.2.2.2.1, slcV st.2.2.2.2.2.2.1 st.2.2.2.2.2.1.length, .int .u64 st.2.2.2.2.2.2.2.1, .int .u64 st.2.2.2.2.2.2.2.2.1, .bool st.2.2.2.2.2.2.2.2.2.1, .int .i64 st.2.2.2.2.2.2.2.2.2.2.1, .bool st.2.2.2.2.2.2.2.2.2.2.2.1, .int .i64 st.2.2.2.2.2.2.2.2.2.2.2.2.1, .int .i64 st.2.2.2.2.2.2.2.2.2.2.2.2.2.1, .string st.2.2.2.2.2.2.2.2.2.2.2.2.2.2] 62 (0, 0))] [] ([Row 1 (pl (encI .u32)) noK st.2.2.2.2.2.2.1 st.2.2.2.2.2.1, Row 1 (pl (encI .u32)) noK (SkL.nil (fun _ => ())) ([] : List Int), Row 3 api_Seg.encS api_Seg.inK A00 a0] ++ Glob)) (fun st hM => ?_) (fun K1 => ?_)
  ·
    obtain ⟨x75, x76, x77, x78, x79, x80, A81, x82, x83, x84, x85, x86, x87, x88, x89⟩ := st
    replace hM : tunnel_Unwrap.k1 x75 x76 x77 x78 x79 x80 x82 x83 x84 x85 x86 x87 x88 x89 = some r := hM
    unfold tunnel_Unwrap.k1 at hM
    show WP _ _ _ _ _ [(6, .pointer (some ⟨(b1 + 1), 0, none⟩)), (7, .pointer (some ⟨(b1 + 2), 0, none⟩)), (8, .int .i64 x75), (9, .pointer (some ⟨b2, 0, none⟩))] (Sat w Z [((b1 + 1), .cells #[.int .i64 0, .int .i64 0, .slice none 0 0] 35 (0, 0)), ((b1 + 2), .cells #[.int .u64 0, .int .u64 0, .bool false, .int .i64 0, .bool false, .int .i64 0, .int .i64 0, .string (⟨#[]⟩ : ByteArray)] 29 (0, 0)), (b2, .cells #[slcV A00 a0.length, .int .u32 a1, .int .i64 x76, .string x77, .int .i64 x78, .int .i64 x79, slcV A81 x80.length, .int .u64 x82, .int .u64 x83, .bool x84, .int .i64 x85, .bool x86, .int .i64 x87, .int .i64 x88, .string x89] 62 (0, 0))] [] ([Row 1 (pl (encI .u32)) noK A81 x80, Row 1 (pl (encI .u32)) noK (SkL.nil (fun _ => ())) ([] : List Int), Row 3 api_Seg.encS api_Seg.inK A00 a0] ++ Glob))
    refine WP.seq ?_
    refine WP.sub [6, 7, 8, 9] (L' := [(6, .pointer (some ⟨(b1 + 1), 0, none⟩)), (7, .pointer (some ⟨(b1 + 2), 0, none⟩)), (8, .int .i64 x75), (9, .pointer (some ⟨b2, 0, none⟩))]) (by kernel_rfl) ?_
    refine WP.pick [1, 2, 0] (by kernel_rfl) (by kernel_rfl : _ = [((b1 + 2), .cells #[.int .u64 0, .int .u64 0, .bool false, .int .i64 0, .bool false, .int .i64 0, .int .i64 0, .string (⟨#[]⟩ : ByteArray)] 29 (0, 0)), (b2, .cells #[slcV A00 a0.length, .int .u32 a1, .int .i64 x76, .string x77, .int .i64 x78, .int .i64 x79, slcV A81 x80.length, .int .u64 x82, .int .u64 x83, .bool x84, .int .i64 x85, .bool x86, .int .i64 x87, .int .i64 x88, .string x89] 62 (0, 0)), ((b1 + 1), .cells #[.int .i64 0, .int .i64 0, .slice none 0 0] 35 (0, 0))]) ?_
    refine WP.mixed (X := Unit) 9 [.val (.pointer (some ⟨b2, 0, none⟩)), .val (.pointer (some ⟨b2, 0, none⟩)), .val (.pointer (some ⟨b2, 4, none⟩)), .val (.agg #[.int .i64 x78, .int .i64 x79, slcV A81 x80.length]), .val (.pointer (some ⟨b2, 0, none⟩)), .val (.pointer (some ⟨b2, 0, none⟩)), .val (.pointer (some ⟨b2, 7, none⟩)), .val (.agg #[.int .u64 x82, .int .u64 x83, .bool x84, .int .i64 x85, .bool x86, .int .i64 x87, .int .i64 x88, .string x89]), .put 9 [] (fun tt => .cells #[.int .i64 x78, .int .i64 x79, slcV A81 x80.length] 35 (0, 0))] [((b1 + 2), .cells #[.int .u64 0, .int .u64 0, .bool false, .int .i64 0, .bool false, .int .i64 0, .int .i64 0, .string (⟨#[]⟩ : ByteArray)] 29 (0, 0)), (b2, .cells #[slcV A00 a0.length, .int .u32 a1, .int .i64 x76, .string x77, .int .i64 x78, .int .i64 x79, slcV A81 x80.length, .int .u64 x82, .int .u64 x83, .bool x84, .int .i64 x85, .bool x86, .int .i64 x87, .int .i64 x88, .string x89] 62 (0, 0))] [((b1 + 1), .cells #[.int .i64 0, .int .i64 0, .slice none 0 0] 35 (0, 0))] (by kernel_rfl) (by kernel_rfl) (by kernel_rfl) (by kernel_rfl) (Heads.val (fun tt Ψ => OpV.run [] [] (by kernel_rfl) (fun _ => by kernel_rfl)) (Heads.val (fun tt Ψ => OpV.run [] [] (by kernel_rfl) (fun _ => by kernel_rfl)) (Heads.val (fun tt Ψ => OpV.run [] [] (by kernel_rfl) (fun _ => by kernel_rfl)) (Heads.val (fun tt Ψ => OpV.run [1, 1, 1] [b2, b2, b2] (by kernel_rfl) (fun _ => by kernel_rfl)) (Heads.val (fun tt Ψ => OpV.run [] [] (by kernel_rfl) (fun _ => by kernel_rfl)) (Heads.val (fun tt Ψ => OpV.run [] [] (by kernel_rfl) (fun _ => by kernel_rfl)) (Heads.val (fun tt Ψ => OpV.run [] [] (by kernel_rfl) (fun _ => by kernel_rfl)) (Heads.val (fun tt Ψ => OpV.run [1, 1, 1, 1, 1, 1, 1, 1] [b2, b2, b2, b2, b2, b2, b2, b2] (by kernel_rfl) (fun _ => by kernel_rfl)) (Heads.put (fun x x' h => rfl) 0 (b1 + 1) (.cells #[.int .i64 0, .int .i64 0, .slice none 0 0] 35 (0, 0)) (fun tt => .cells #[.int .i64 0, .int .i64 0, .slice none 0 0] 35 (0, 0)) (by kernel_rfl) rfl (fun _ => by kernel_rfl) (fun tt Ψ => OpP.run [2, 2, 2] [(b1 + 1), (b1 + 1), (b1 + 1)] (by kernel_rfl) (fun _ _ => by kernel_rfl) (fun _ _ => by kernel_rfl)) Heads.nil))))))))) (fun s90 tt => [(33, .pointer (some ⟨b2, 0, none⟩)), (34, .pointer (some ⟨b2, 0, none⟩)), (35, .pointer (some ⟨b2, 4, none⟩)), (36, .agg #[.int .i64 x78, .int .i64 x79, slcV A81 x80.length]), (37, .pointer (some ⟨b2, 0, none⟩)), (38, .pointer (some ⟨b2, 0, none⟩)), (39, .pointer (some ⟨b2, 7, none⟩)), (40, .agg #[.int .u64 x82, .int .u64 x83, .bool x84, .int .i64 x85, .bool x86, .int .i64 x87, .int .i64 x88, .string x89]), (6, .pointer (some ⟨(b1 + 1), 0, none⟩)), (7, .pointer (some ⟨(b1 + 2), 0, none⟩)), (8, .int .i64 x75), (9, .pointer (some ⟨b2, 0, none⟩))]) (fun s90 tt => [((b1 + 2), .cells #[.int .u64 0, .int .u64 0, .bool false, .int .i64 0, .bool false, .int .i64 0, .int .i64 0, .string (⟨#[]⟩ : ByteArray)] 29 (0, 0)), (b2, .cells #[slcV A00 a0.length, .int .u32 a1, .int .i64 x76, .string x77, .int .i64 x78, .int .i64 x79, slcV A81 x80.length, .int .u64 x82, .int .u64 x83, .bool x84, .int .i64 x85, .bool x86, .int .i64 x87, .int .i64 x88, .string x89] 62 (0, 0)), ((b1 + 1), .cells #[.int .i64 x78, .int .i64 x79, slcV A81 x80.length] 35 (0, 0))]) (fun tt => ([] ++ [Row 1 (pl (encI .u32)) noK A81 x80, Row 1 (pl (encI .u32)) noK (SkL.nil (fun _ => ())) ([] : List Int), Row 3 api_Seg.encS api_Seg.inK A00 a0]) ++ Glob) (fun _ _ => by kernel_rfl) (fun _ _ => by kernel_rfl) (fun _ => by kernel_rfl) (fun s90 tt => ?_)
    refine WL.run 2 [0, 0, 0, 0, 0, 0, 0, 0] [6, 7, 8] (fun _ => [(6, .pointer (some ⟨(b1 + 1), 0, none⟩)), (7, .pointer (some ⟨(b1 + 2), 0, none⟩)), (8, .int .i64 0)]) (fun _ => [((b1 + 2), .cells #[.int .u64 x82, .int .u64 x83, .bool x84, .int .i64 x85, .bool x86, .int .i64 x87, .int .i64 x88, .string x89] 29 (0, 0)), (b2, .cells #[slcV A00 a0.length, .int .u32 a1, .int .i64 x76, .string x77, .int .i64 x78, .int .i64 x79, slcV A81 x80.length, .int .u64 x82, .int .u64 x83, .bool x84, .int .i64 x85, .bool x86, .int .i64 x87, .int .i64 x88, .string x89] 62 (0, 0)), ((b1 + 1), .cells #[.int .i64 x78, .int .i64 x79, slcV A81 x80.length] 35 (0, 0))]) (fun _ => [(b1 + 2), (b1 + 2), (b1 + 2), (b1 + 2), (b1 + 2), (b1 + 2), (b1 + 2), (b1 + 2)]) (fun _ => by kernel_rfl) (fun _ => ?_)
    refine WP.done ?_
    refine WP.keep [true, false, true] (by kernel_rfl : _ = [((b1 + 2), .cells #[.int .u64 x82, .int .u64 x83, .bool x84, .int .i64 x85, .bool x86, .int .i64 x87, .int .i64 x88, .string x89] 29 (0, 0)), ((b1 + 1), .cells #[.int .i64 x78, .int .i64 x79, slcV A81 x80.length] 35 (0, 0))]) ?_
    obtain rfl := Option.some.inj hM
    exact WP.ret [1, 1, 1, 0, 0, 0, 0, 0, 0, 0, 0] [(b1 + 1), (b1 + 1), (b1 + 1), (b1 + 2), (b1 + 2), (b1 + 2), (b1 + 2), (b1 + 2), (b1 + 2), (b1 + 2), (b1 + 2)] (.tuple #[.agg #[.int .i64 x78, .int .i64 x79, slcV A81 x80.length], .agg #[.int .u64 x82, .int .u64 x83, .bool x84, .int .i64 x85, .bool x86, .int .i64 x87, .int .i64 x88, .string x89], .int .i64 0]) (by kernel_rfl) (fun w' hw => ⟨A81, rfl, (hw.pick [] (by kernel_rfl)).less (sub_ret [0] [2] (by kernel_rfl) (by kernel_rfl))⟩)
  ·
    refine WP.unroll 40 ?_
    refine WP.seq ?_
    refine WP.run [] [6, 7, 8, 9, 20, 21, 22] (fun _ => [(6, .pointer (some ⟨(b1 + 1), 0, none⟩)), (7, .pointer (some ⟨(b1 + 2), 0, none⟩)), (8, .int .i64 0), (9, .pointer (some ⟨b2, 0, none⟩)), (20, .agg #[.int .i64 1, .int .i64 2, .int .i64 3, .int .i64 4]), (21, .int .i64 0), (22, .bool true)]) (fun _ => [((b1 + 1), .cells #[.int .i64 0, .int .i64 0, .slice none 0 0] 35 (0, 0)), ((b1 + 2), .cells #[.int .u64 0, .int .u64 0, .bool false, .int .i64 0, .bool false, .int .i64 0, .int .i64 0, .string (⟨#[]⟩ : ByteArray)] 29 (0, 0)), (b2, .cells #[slcV A00 a0.length, .int .u32 a1, .int .i64 0, .string a2.Body, .int .i64 0, .int .i64 0, .slice none 0 0, .int .u64 0, .int .u64 0, .bool false, .int .i64 0, .bool false, .int .i64 0, .int .i64 0, .string (⟨#[]⟩ : ByteArray)] 62 (0, 0))]) (fun _ => []) (fun _ => by kernel_rfl) (fun _ => ?_)
    refine WP.seq ?_
    refine WP.yes rfl rfl ?_
    refine WP.skip ?_
    refine WP.seq ?_
    refine WP.block ?_
    refine WP.seq ?_
    refine WP.run [] [6, 7, 8, 9, 11, 12, 20, 21, 22, 23, 24] (fun _ => [(6, .pointer (some ⟨(b1 + 1), 0, none⟩)), (7, .pointer (some ⟨(b1 + 2), 0, none⟩)), (8, .int .i64 0), (9, .pointer (some ⟨b2, 0, none⟩)), (11, .int .i64 0), (12, .int .i64 1), (20, .agg #[.int .i64 1, .int .i64 2, .int .i64 3, .int .i64 4]), (21, .int .i64 0), (22, .bool true), (23, .int .i64 0), (24, .int .i64 1)]) (fun _ => [((b1 + 1), .cells #[.int .i64 0, .int .i64 0, .slice none 0 0] 35 (0, 0)), ((b1 + 2), .cells #[.int .u64 0, .int .u64 0, .bool false, .int .i64 0, .bool false, .int .i64 0, .int .i64 0, .string (⟨#[]⟩ : ByteArray)] 29 (0, 0)), (b2, .cells #[slcV A00 a0.length, .int .u32 a1, .int .i64 0, .string a2.Body, .int .i64 0, .int .i64 0, .slice none 0 0, .int .u64 0, .int .u64 0, .bool false, .int .i64 0, .bool false, .int .i64 0, .int .i64 0, .string (⟨#[]⟩ : ByteArray)] 62 (0, 0))]) (fun _ => []) (fun _ => by kernel_rfl) (fun _ => ?_)
    refine WP.seq ?_
    refine WP.region ?_
    refine WL.run 2 [] [6, 7, 8, 9, 11, 12, 20, 21, 22, 23, 24, 25, 26] (fun _ => [(6, .pointer (some ⟨(b1 + 1), 0, none⟩)), (7, .pointer (some ⟨(b1 + 2), 0, none⟩)), (8, .int .i64 0), (9, .pointer (some ⟨b2, 0, none⟩)), (11, .int .i64 0), (12, .int .i64 1), (20, .agg #[.int .i64 1, .int .i64 2, .int .i64 3, .int .i64 4]), (21, .int .i64 0), (22, .bool true), (23, .int .i64 0), (24, .int .i64 1), (25, .pointer (some ⟨b2, 0, none⟩)), (26, .int .i64 0)]) (fun _ => [((b1 + 1), .cells #[.int .i64 0, .int .i64 0, .slice none 0 0] 35 (0, 0)), ((b1 + 2), .cells #[.int .u64 0, .int .u64 0, .bool false, .int .i64 0, .bool false, .int .i64 0, .int .i64 0, .string (⟨#[]⟩ : ByteArray)] 29 (0, 0)), (b2, .cells #[slcV A00 a0.length, .int .u32 a1, .int .i64 0, .string a2.Body, .int .i64 0, .int .i64 0, .slice none 0 0, .int .u64 0, .int .u64 0, .bool false, .int .i64 0, .bool false, .int .i64 0, .int .i64 0, .string (⟨#[]⟩ : ByteArray)] 62 (0, 0))]) (fun _ => []) (fun _ => by kernel_rfl) (fun _ => ?_)
    refine WL.know (Row 1 (pl (encI .u32)) noK (SkL.nil (fun _ => ())) ([] : List Int)) [] [] (by kernel_rfl) (fun w _ => RowP.empty (fun _ => rfl)) ?_
    obtain ⟨⟨r7, r8, r9, r10, r11, r12, r13, r14, r15, r16, r17, r18, r19, r20⟩, h21, hM⟩ := bind_some hM
    dsimp only at hM
    refine WL.callX (F0 := [Row 3 api_Seg.encS api_Seg.inK A00 a0, Row 1 (pl (encI .u32)) noK (SkL.nil (fun _ => ())) ([] : List Int)]) [] [] [false, false, true] (fun _ => _) [1, 0] (by kernel_rfl) (tunnel_opener_step_calls k b2 A00 (SkL.nil (fun _ => ())) a0 a1 0 a2.Body 0 0 ([] : List Int) 0 0 false 0 false 0 0 (⟨#[]⟩ : ByteArray) 0 _ h21) rfl rfl (by kernel_rfl) (by kernel_rfl) (fun _ => rfl) (fun A22 => ?_)
    refine WL.run 1 [] [6, 7, 8, 9, 11, 12, 20, 21, 22, 23, 24, 25, 26, 27, 28] (fun _ => [(6, .pointer (some ⟨(b1 + 1), 0, none⟩)), (7, .pointer (some ⟨(b1 + 2), 0, none⟩)), (8, .int .i64 0), (9, .pointer (some ⟨b2, 0, none⟩)), (11, .int .i64 0), (12, .int .i64 1), (20, .agg #[.int .i64 1, .int .i64 2, .int .i64 3, .int .i64 4]), (21, .int .i64 0), (22, .bool true), (23, .int .i64 0), (24, .int .i64 1), (25, .pointer (some ⟨b2, 0, none⟩)), (26, .int .i64 0), (27, .bool r7), (28, .bool (!r7))]) (fun _ => [(b2, .cells #[slcV A00 a0.length, .int .u32 a1, .int .i64 r8, .string r9, .int .i64 r10, .int .i64 r11, slcV A22 r12.length, .int .u64 r13, .int .u64 r14, .bool r15, .int .i64 r16, .bool r17, .int .i64 r18, .int .i64 r19, .string r20] 62 (0, 0)), ((b1 + 1), .cells #[.int .i64 0, .int .i64 0, .slice none 0 0] 35 (0, 0)), ((b1 + 2), .cells #[.int .u64 0, .int .u64 0, .bool false, .int .i64 0, .bool false, .int .i64 0, .int .i64 0, .string (⟨#[]⟩ : ByteArray)] 29 (0, 0))]) (fun _ => []) (fun _ => by kernel_rfl) (fun _ => ?_)
    refine WP.done ?_
    refine WP.cond (!r7) rfl rfl (fun c23 => ?_) (fun c23 => ?_)
    · replace hM := cond_t hM c23
      refine WP.seq ?_
      refine WP.run [1, 1, 1, 2, 2, 2, 2, 2, 2, 2, 2] [6, 7, 8, 9, 11, 12, 20, 21, 22, 23, 24, 25, 26, 27, 28, 29, 30, 31] (fun _ => [(6, .pointer (some ⟨(b1 + 1), 0, none⟩)), (7, .pointer (some ⟨(b1 + 2), 0, none⟩)), (8, .int .i64 1), (9, .pointer (some ⟨b2, 0, none⟩)), (11, .int .i64 0), (12, .int .i64 1), (20, .agg #[.int .i64 1, .int .i64 2, .int .i64 3, .int .i64 4]), (21, .int .i64 0), (22, .bool true), (23, .int .i64 0), (24, .int .i64 1), (25, .pointer (some ⟨b2, 0, none⟩)), (26, .int .i64 0), (27, .bool r7), (28, .bool (!r7)), (29, .agg #[.int .i64 0, .int .i64 0, .slice none 0 0]), (30, .agg #[.int .u64 0, .int .u64 0, .bool false, .int .i64 0, .bool false, .int .i64 0, .int .i64 0, .string (⟨#[]⟩ : ByteArray)]), (31, .int .i64 1)]) (fun _ => [(b2, .cells #[slcV A00 a0.length, .int .u32 a1, .int .i64 r8, .string r9, .int .i64 r10, .int .i64 r11, slcV A22 r12.length, .int .u64 r13, .int .u64 r14, .bool r15, .int .i64 r16, .bool r17, .int .i64 r18, .int .i64 r19, .string r20] 62 (0, 0)), ((b1 + 1), .cells #[.int .i64 0, .int .i64 0, .slice none 0 0] 35 (0, 0)), ((b1 + 2), .cells #[.int .u64 0, .int .u64 0, .bool false, .int .i64 0, .bool false, .int .i64 0, .int .i64 0, .string (⟨#[]⟩ : ByteArray)] 29 (0, 0))]) (fun _ => [(b1 + 2), (b1 + 2), (b1 + 2), (b1 + 2), (b1 + 2), (b1 + 2), (b1 + 2), (b1 + 2), (b1 + 1), (b1 + 1), (b1 + 1)]) (fun _ => by kernel_rfl) (fun _ => ?_)
      obtain rfl := Option.some.inj hM
      exact WP.ret [1, 1, 1, 2, 2, 2, 2, 2, 2, 2, 2] [(b1 + 1), (b1 + 1), (b1 + 1), (b1 + 2), (b1 + 2), (b1 + 2), (b1 + 2), (b1 + 2), (b1 + 2), (b1 + 2), (b1 + 2)] (.tuple #[.agg #[.int .i64 0, .int .i64 0, slcV (SkL.nil (fun _ => ())) ([] : List Int).length], .agg #[.int .u64 0, .int .u64 0, .bool false, .int .i64 0, .bool false, .int .i64 0, .int .i64 0, .string (⟨#[]⟩ : ByteArray)], .int .i64 1]) (by kernel_rfl) (fun w' hw => ⟨(SkL.nil (fun _ => ())), rfl, (hw.pick [] (by kernel_rfl)).less (sub_ret [1] [2] (by kernel_rfl) (by kernel_rfl))⟩)
    · replace hM := cond_f hM c23
      refine WP.skip ?_
      refine WP.leave ?_
      refine WP.run [] [6, 7, 8, 9, 11, 12, 20, 21, 22, 23, 24, 25, 26, 27, 28, 32] (fun _ => [(6, .pointer (some ⟨(b1 + 1), 0, none⟩)), (7, .pointer (some ⟨(b1 + 2), 0, none⟩)), (8, .int .i64 0), (9, .pointer (some ⟨b2, 0, none⟩)), (11, .int .i64 0), (12, .int .i64 1), (20, .agg #[.int .i64 1, .int .i64 2, .int .i64 3, .int .i64 4]), (21, .int .i64 1), (22, .bool true), (23, .int .i64 0), (24, .int .i64 1), (25, .pointer (some ⟨b2, 0, none⟩)), (26, .int .i64 0), (27, .bool r7), (28, .bool (!r7)), (32, .int .i64 1)]) (fun _ => [(b2, .cells #[slcV A00 a0.length, .int .u32 a1, .int .i64 r8, .string r9, .int .i64 r10, .int .i64 r11, slcV A22 r12.length, .int .u64 r13, .int .u64 r14, .bool r15, .int .i64 r16, .bool r17, .int .i64 r18, .int .i64 r19, .string r20] 62 (0, 0)), ((b1 + 1), .cells #[.int .i64 0, .int .i64 0, .slice none 0 0] 35 (0, 0)), ((b1 + 2), .cells #[.int .u64 0, .int .u64 0, .bool false, .int .i64 0, .bool false, .int .i64 0, .int .i64 0, .string (⟨#[]⟩ : ByteArray)] 29 (0, 0))]) (fun _ => []) (fun _ => by kernel_rfl) (fun _ => ?_)
      refine WP.round ?_
      refine WP.seq ?_
      refine WP.run [] [6, 7, 8, 9, 11, 12, 20, 21, 22, 23, 24, 25, 26, 27, 28, 32] (fun _ => [(6, .pointer (some ⟨(b1 + 1), 0, none⟩)), (7, .pointer (some ⟨(b1 + 2), 0, none⟩)), (8, .int .i64 0), (9, .pointer (some ⟨b2, 0, none⟩)), (11, .int .i64 0), (12, .int .i64 1), (20, .agg #[.int .i64 1, .int .i64 2, .int .i64 3, .int .i64 4]), (21, .int .i64 1), (22, .bool true), (23, .int .i64 0), (24, .int .i64 1), (25, .pointer (some ⟨b2, 0, none⟩)), (26, .int .i64 0), (27, .bool r7), (28, .bool (!r7)), (32, .int .i64 1)]) (fun _ => [(b2, .cells #[slcV A00 a0.length, .int .u32 a1, .int .i64 r8, .string r9, .int .i64 r10, .int .i64 r11, slcV A22 r12.length, .int .u64 r13, .int .u64 r14, .bool r15, .int .i64 r16, .bool r17, .int .i64 r18, .int .i64 r19, .string r20] 62 (0, 0)), ((b1 + 1), .cells #[.int .i64 0, .int .i64 0, .slice none 0 0] 35 (0, 0)), ((b1 + 2), .cells #[.int .u64 0, .int .u64 0, .bool false, .int .i64 0, .bool false, .int .i64 0, .int .i64 0, .string (⟨#[]⟩ : ByteArray)] 29 (0, 0))]) (fun _ => []) (fun _ => by kernel_rfl) (fun _ => ?_)
      refine WP.seq ?_
      refine WP.yes rfl rfl ?_
      refine WP.skip ?_
      refine WP.seq ?_
      refine WP.block ?_
      refine WP.seq ?_
      refine WP.run [] [6, 7, 8, 9, 11, 12, 20, 21, 22, 23, 24, 25, 26, 27, 28, 32] (fun _ => [(6, .pointer (some ⟨(b1 + 1), 0, none⟩)), (7, .pointer (some ⟨(b1 + 2), 0, none⟩)), (8, .int .i64 0), (9, .pointer (some ⟨b2, 0, none⟩)), (11, .int .i64 1), (12, .int .i64 2), (20, .agg #[.int .i64 1, .int .i64 2, .int .i64 3, .int .i64 4]), (21, .int .i64 1), (22, .bool true), (23, .int .i64 1), (24, .int .i64 2), (25, .pointer (some ⟨b2, 0, none⟩)), (26, .int .i64 0), (27, .bool r7), (28, .bool (!r7)), (32, .int .i64 1)]) (fun _ => [(b2, .cells #[slcV A00 a0.length, .int .u32 a1, .int .i64 r8, .string r9, .int .i64 r10, .int .i64 r11, slcV A22 r12.length, .int .u64 r13, .int .u64 r14, .bool r15, .int .i64 r16, .bool r17, .int .i64 r18, .int .i64 r19, .string r20] 62 (0, 0)), ((b1 + 1), .cells #[.int .i64 0, .int .i64 0, .slice none 0 0] 35 (0, 0)), ((b1 + 2), .cells #[.int .u64 0, .int .u64 0, .bool false, .int .i64 0, .bool false, .int .i64 0, .int .i64 0, .string (⟨#[]⟩ : ByteArray)] 29 (0, 0))]) (fun _ => []) (fun _ => by kernel_rfl) (fun _ => ?_)
      refine WP.seq ?_
      refine WP.region ?_
      refine WL.run 2 [] [6, 7, 8, 9, 11, 12, 20, 21, 22, 23, 24, 25, 26, 27, 28, 32] (fun _ => [(6, .pointer (some ⟨(b1 + 1), 0, none⟩)), (7, .pointer (some ⟨(b1 + 2), 0, none⟩)), (8, .int .i64 0), (9, .pointer (some ⟨b2, 0, none⟩)), (11, .int .i64 1), (12, .int .i64 2), (20, .agg #[.int .i64 1, .int .i64 2, .int .i64 3, .int .i64 4]), (21, .int .i64 1), (22, .bool true), (23, .int .i64 1), (24, .int .i64 2), (25, .pointer (some ⟨b2, 0, none⟩)), (26, .int .i64 1), (27, .bool r7), (28, .bool (!r7)), (32, .int .i64 1)]) (fun _ => [(b2, .cells #[slcV A00 a0.length, .int .u32 a1, .int .i64 r8, .string r9, .int .i64 r10, .int .i64 r11, slcV A22 r12.length, .int .u64 r13, .int .u64 r14, .bool r15, .int .i64 r16, .bool r17, .int .i64 r18, .int .i64 r19, .string r20] 62 (0, 0)), ((b1 + 1), .cells #[.int .i64 0, .int .i64 0, .slice none 0 0] 35 (0, 0)), ((b1 + 2), .cells #[.int .u64 0, .int .u64 0, .bool false, .int .i64 0, .bool false, .int .i64 0, .int .i64 0, .string (⟨#[]⟩ : ByteArray)] 29 (0, 0))]) (fun _ => []) (fun _ => by kernel_rfl) (fun _ => ?_)
      obtain ⟨⟨r24, r25, r26, r27, r28, r29, r30, r31, r32, r33, r34, r35, r36, r37⟩, h38, hM⟩ := bind_some hM
      dsimp only at hM
      refine WL.callX (F0 := [Row 3 api_Seg.encS api_Seg.inK A00 a0, Row 1 (pl (encI .u32)) noK A22 r12]) [] [] [true, false, false] (fun _ => _) [2, 0] (by kernel_rfl) (tunnel_opener_step_calls k b2 A00 A22 a0 a1 r8 r9 r10 r11 r12 r13 r14 r15 r16 r17 r18 r19 r20 1 _ h38) rfl rfl (by kernel_rfl) (by kernel_rfl) (fun _ => rfl) (fun A39 => ?_)
      refine WL.run 1 [] [6, 7, 8, 9, 11, 12, 20, 21, 22, 23, 24, 25, 26, 27, 28, 32] (fun _ => [(6, .pointer (some ⟨(b1 + 1), 0, none⟩)), (7, .pointer (some ⟨(b1 + 2), 0, none⟩)), (8, .int .i64 0), (9, .pointer (some ⟨b2, 0, none⟩)), (11, .int .i64 1), (12, .int .i64 2), (20, .agg #[.int .i64 1, .int .i64 2, .int .i64 3, .int .i64 4]), (21, .int .i64 1), (22, .bool true), (23, .int .i64 1), (24, .int .i64 2), (25, .pointer (some ⟨b2, 0, none⟩)), (26, .int .i64 1), (27, .bool r24), (28, .bool (!r24)), (32, .int .i64 1)]) (fun _ => [(b2, .cells #[slcV A00 a0.length, .int .u32 a1, .int .i64 r25, .string r26, .int .i64 r27, .int .i64 r28, slcV A39 r29.length, .int .u64 r30, .int .u64 r31, .bool r32, .int .i64 r33, .bool r34, .int .i64 r35, .int .i64 r36, .string r37] 62 (0, 0)), ((b1 + 1), .cells #[.int .i64 0, .int .i64 0, .slice none 0 0] 35 (0, 0)), ((b1 + 2), .cells #[.int .u64 0, .int .u64 0, .bool false, .int .i64 0, .bool false, .int .i64 0, .int .i64 0, .string (⟨#[]⟩ : ByteArray)] 29 (0, 0))]) (fun _ => []) (fun _ => by kernel_rfl) (fun _ => ?_)
      refine WP.done ?_
      refine WP.cond (!r24) rfl rfl (fun c40 => ?_) (fun c40 => ?_)
      · replace hM := cond_t hM c40
        refine WP.seq ?_
        refine WP.run [1, 1, 1, 2, 2, 2, 2, 2, 2, 2, 2] [6, 7, 8, 9, 11, 12, 20, 21, 22, 23, 24, 25, 26, 27, 28, 29, 30, 31, 32] (fun _ => [(6, .pointer (some ⟨(b1 + 1), 0, none⟩)), (7, .pointer (some ⟨(b1 + 2), 0, none⟩)), (8, .int .i64 2), (9, .pointer (some ⟨b2, 0, none⟩)), (11, .int .i64 1), (12, .int .i64 2), (20, .agg #[.int .i64 1, .int .i64 2, .int .i64 3, .int .i64 4]), (21, .int .i64 1), (22, .bool true), (23, .int .i64 1), (24, .int .i64 2), (25, .pointer (some ⟨b2, 0, none⟩)), (26, .int .i64 1), (27, .bool r24), (28, .bool (!r24)), (29, .agg #[.int .i64 0, .int .i64 0, .slice none 0 0]), (30, .agg #[.int .u64 0, .int .u64 0, .bool false, .int .i64 0, .bool false, .int .i64 0, .int .i64 0, .string (⟨#[]⟩ : ByteArray)]), (31, .int .i64 2), (32, .int .i64 1)]) (fun _ => [(b2, .cells #[slcV A00 a0.length, .int .u32 a1, .int .i64 r25, .string r26, .int .i64 r27, .int .i64 r28, slcV A39 r29.length, .int .u64 r30, .int .u64 r31, .bool r32, .int .i64 r33, .bool r34, .int .i64 r35, .int .i64 r36, .string r37] 62 (0, 0)), ((b1 + 1), .cells #[.int .i64 0, .int .i64 0, .slice none 0 0] 35 (0, 0)), ((b1 + 2), .cells #[.int .u64 0, .int .u64 0, .bool false, .int .i64 0, .bool false, .int .i64 0, .int .i64 0, .string (⟨#[]⟩ : ByteArray)] 29 (0, 0))]) (fun _ => [(b1 + 2), (b1 + 2), (b1 + 2), (b1 + 2), (b1 + 2), (b1 + 2), (b1 + 2), (b1 + 2), (b1 + 1), (b1 + 1), (b1 + 1)]) (fun _ => by kernel_rfl) (fun _ => ?_)
        obtain rfl := Option.some.inj hM
        exact WP.ret [1, 1, 1, 2, 2, 2, 2, 2, 2, 2, 2] [(b1 + 1), (b1 + 1), (b1 + 1), (b1 + 2), (b1 + 2), (b1 + 2), (b1 + 2), (b1 + 2), (b1 + 2), (b1 + 2), (b1 + 2)] (.tuple #[.agg #[.int .i64 0, .int .i64 0, slcV (SkL.nil (fun _ => ())) ([] : List Int).length], .agg #[.int .u64 0, .int .u64 0, .bool false, .int .i64 0, .bool false, .int .i64 0, .int .i64 0, .string (⟨#[]⟩ : ByteArray)], .int .i64 2]) (by kernel_rfl) (fun w' hw => ⟨(SkL.nil (fun _ => ())), rfl, (hw.pick [] (by kernel_rfl)).less (sub_ret [2] [3] (by kernel_rfl) (by kernel_rfl))⟩)
      · replace hM := cond_f hM c40
        refine WP.skip ?_
        refine WP.leave ?_
        refine WP.run [] [6, 7, 8, 9, 11, 12, 20, 21, 22, 23, 24, 25, 26, 27, 28, 32] (fun _ => [(6, .pointer (some ⟨(b1 + 1), 0, none⟩)), (7, .pointer (some ⟨(b1 + 2), 0, none⟩)), (8, .int .i64 0), (9, .pointer (some ⟨b2, 0, none⟩)), (11, .int .i64 1), (12, .int .i64 2), (20, .agg #[.int .i64 1, .int .i64 2, .int .i64 3, .int .i64 4]), (21, .int .i64 2), (22, .bool true), (23, .int .i64 1), (24, .int .i64 2), (25, .pointer (some ⟨b2, 0, none⟩)), (26, .int .i64 1), (27, .bool r24), (28, .bool (!r24)), (32, .int .i64 2)]) (fun _ => [(b2, .cells #[slcV A00 a0.length, .int .u32 a1, .int .i64 r25, .string r26, .int .i64 r27, .int .i64 r28, slcV A39 r29.length, .int .u64 r30, .int .u64 r31, .bool r32, .int .i64 r33, .bool r34, .int .i64 r35, .int .i64 r36, .string r37] 62 (0, 0)), ((b1 + 1), .cells #[.int .i64 0, .int .i64 0, .slice none 0 0] 35 (0, 0)), ((b1 + 2), .cells #[.int .u64 0, .int .u64 0, .bool false, .int .i64 0, .bool false, .int .i64 0, .int .i64 0, .string (⟨#[]⟩ : ByteArray)] 29 (0, 0))]) (fun _ => []) (fun _ => by kernel_rfl) (fun _ => ?_)
        refine WP.round ?_
        refine WP.seq ?_
        refine WP.run [] [6, 7, 8, 9, 11, 12, 20, 21, 22, 23, 24, 25, 26, 27, 28, 32] (fun _ => [(6, .pointer (some ⟨(b1 + 1), 0, none⟩)), (7, .pointer (some ⟨(b1 + 2), 0, none⟩)), (8, .int .i64 0), (9, .pointer (some ⟨b2, 0, none⟩)), (11, .int .i64 1), (12, .int .i64 2), (20, .agg #[.int .i64 1, .int .i64 2, .int .i64 3, .int .i64 4]), (21, .int .i64 2), (22, .bool true), (23, .int .i64 1), (24, .int .i64 2), (25, .pointer (some ⟨b2, 0, none⟩)), (26, .int .i64 1), (27, .bool r24), (28, .bool (!r24)), (32, .int .i64 2)]) (fun _ => [(b2, .cells #[slcV A00 a0.length, .int .u32 a1, .int .i64 r25, .string r26, .int .i64 r27, .int .i64 r28, slcV A39 r29.length, .int .u64 r30, .int .u64 r31, .bool r32, .int .i64 r33, .bool r34, .int .i64 r35, .int .i64 r36, .string r37] 62 (0, 0)), ((b1 + 1), .cells #[.int .i64 0, .int .i64 0, .slice none 0 0] 35 (0, 0)), ((b1 + 2), .cells #[.int .u64 0, .int .u64 0, .bool false, .int .i64 0, .bool false, .int .i64 0, .int .i64 0, .string (⟨#[]⟩ : ByteArray)] 29 (0, 0))]) (fun _ => []) (fun _ => by kernel_rfl) (fun _ => ?_)
        refine WP.seq ?_
        refine WP.yes rfl rfl ?_
        refine WP.skip ?_
        refine WP.seq ?_
        refine WP.block ?_
        refine WP.seq ?_
        refine WP.run [] [6, 7, 8, 9, 11, 12, 20, 21, 22, 23, 24, 25, 26, 27, 28, 32] (fun _ => [(6, .pointer (some ⟨(b1 + 1), 0, none⟩)), (7, .pointer (some ⟨(b1 + 2), 0, none⟩)), (8, .int .i64 0), (9, .pointer (some ⟨b2, 0, none⟩)), (11, .int .i64 2), (12, .int .i64 3), (20, .agg #[.int .i64 1, .int .i64 2, .int .i64 3, .int .i64 4]), (21, .int .i64 2), (22, .bool true), (23, .int .i64 2), (24, .int .i64 3), (25, .pointer (some ⟨b2, 0, none⟩)), (26, .int .i64 1), (27, .bool r24), (28, .bool (!r24)), (32, .int .i64 2)]) (fun _ => [(b2, .cells #[slcV A00 a0.length, .int .u32 a1, .int .i64 r25, .string r26, .int .i64 r27, .int .i64 r28, slcV A39 r29.length, .int .u64 r30, .int .u64 r31, .bool r32, .int .i64 r33, .bool r34, .int .i64 r35, .int .i64 r36, .string r37] 62 (0, 0)), ((b1 + 1), .cells #[.int .i64 0, .int .i64 0, .slice none 0 0] 35 (0, 0)), ((b1 + 2), .cells #[.int .u64 0, .int .u64 0, .bool false, .int .i64 0, .bool false, .int .i64 0, .int .i64 0, .string (⟨#[]⟩ : ByteArray)] 29 (0, 0))]) (fun _ => []) (fun _ => by kernel_rfl) (fun _ => ?_)
        refine WP.seq ?_
        refine WP.region ?_
        refine WL.run 2 [] [6, 7, 8, 9, 11, 12, 20, 21, 22, 23, 24, 25, 26, 27, 28, 32] (fun _ => [(6, .pointer (some ⟨(b1 + 1), 0, none⟩)), (7, .pointer (some ⟨(b1 + 2), 0, none⟩)), (8, .int .i64 0), (9, .pointer (some ⟨b2, 0, none⟩)), (11, .int .i64 2), (12, .int .i64 3), (20, .agg #[.int .i64 1, .int .i64 2, .int .i64 3, .int .i64 4]), (21, .int .i64 2), (22, .bool true), (23, .int .i64 2), (24, .int .i64 3), (25, .pointer (some ⟨b2, 0, none⟩)), (26, .int .i64 2), (27, .bool r24), (28, .bool (!r24)), (32, .int .i64 2)]) (fun _ => [(b2, .cells #[slcV A00 a0.length, .int .u32 a1, .int .i64 r25, .string r26, .int .i64 r27, .int .i64 r28, slcV A39 r29.length, .int .u64 r30, .int .u64 r31, .bool r32, .int .i64 r33, .bool r34, .int .i64 r35, .int .i64 r36, .string r37] 62 (0, 0)), ((b1 + 1), .cells #[.int .i64 0, .int .i64 0, .slice none 0 0] 35 (0, 0)), ((b1 + 2), .cells #[.int .u64 0, .int .u64 0, .bool false, .int .i64 0, .bool false, .int .i64 0, .int .i64 0, .string (⟨#[]⟩ : ByteArray)] 29 (0, 0))]) (fun _ => []) (fun _ => by kernel_rfl) (fun _ => ?_)
        obtain ⟨⟨r41, r42, r43, r44, r45, r46, r47, r48, r49, r50, r51, r52, r53, r54⟩, h55, hM⟩ := bind_some hM
        dsimp only at hM
        refine WL.callX (F0 := [Row 3 api_Seg.encS api_Seg.inK A00 a0, Row 1 (pl (encI .u32)) noK A39 r29]) [] [] [true, false, false] (fun _ => _) [3, 0] (by kernel_rfl) (tunnel_opener_step_calls k b2 A00 A39 a0 a1 r25 r26 r27 r28 r29 r30 r31 r32 r33 r34 r35 r36 r37 2 _ h55) rfl rfl (by kernel_rfl) (by kernel_rfl) (fun _ => rfl) (fun A56 => ?_)
        refine WL.run 1 [] [6, 7, 8, 9, 11, 12, 20, 21, 22, 23, 24, 25, 26, 27, 28, 32] (fun _ => [(6, .pointer (some ⟨(b1 + 1), 0, none⟩)), (7, .pointer (some ⟨(b1 + 2), 0, none⟩)), (8, .int .i64 0), (9, .pointer (some ⟨b2, 0, none⟩)), (11, .int .i64 2), (12, .int .i64 3), (20, .agg #[.int .i64 1, .int .i64 2, .int .i64 3, .int .i64 4]), (21, .int .i64 2), (22, .bool true), (23, .int .i64 2), (24, .int .i64 3), (25, .pointer (some ⟨b2, 0, none⟩)), (26, .int .i64 2), (27, .bool r41), (28, .bool (!r41)), (32, .int .i64 2)]) (fun _ => [(b2, .cells #[slcV A00 a0.length, .int .u32 a1, .int .i64 r42, .string r43, .int .i64 r44, .int .i64 r45, slcV A56 r46.length, .int .u64 r47, .int .u64 r48, .bool r49, .int .i64 r50, .bool r51, .int .i64 r52, .int .i64 r53, .string r54] 62 (0, 0)), ((b1 + 1), .cells #[.int .i64 0, .int .i64 0, .slice none 0 0] 35 (0, 0)), ((b1 + 2), .cells #[.int .u64 0, .int .u64 0, .bool false, .int .i64 0, .bool false, .int .i64 0, .int .i64 0, .string (⟨#[]⟩ : ByteArray)] 29 (0, 0))]) (fun _ => []) (fun _ => by kernel_rfl) (fun _ => ?_)
        refine WP.done ?_
        refine WP.cond (!r41) rfl rfl (fun c57 => ?_) (fun c57 => ?_)
        · replace hM := cond_t hM c57
          refine WP.seq ?_
          refine WP.run [1, 1, 1, 2, 2, 2, 2, 2, 2, 2, 2] [6, 7, 8, 9, 11, 12, 20, 21, 22, 23, 24, 25, 26, 27, 28, 29, 30, 31, 32] (fun _ => [(6, .pointer (some ⟨(b1 + 1), 0, none⟩)), (7, .pointer (some ⟨(b1 + 2), 0, none⟩)), (8, .int .i64 3), (9, .pointer (some ⟨b2, 0, none⟩)), (11, .int .i64 2), (12, .int .i64 3), (20, .agg #[.int .i64 1, .int .i64 2, .int .i64 3, .int .i64 4]), (21, .int .i64 2), (22, .bool true), (23, .int .i64 2), (24, .int .i64 3), (25, .pointer (some ⟨b2, 0, none⟩)), (26, .int .i64 2), (27, .bool r41), (28, .bool (!r41)), (29, .agg #[.int .i64 0, .int .i64 0, .slice none 0 0]), (30, .agg #[.int .u64 0, .int .u64 0, .bool false, .int .i64 0, .bool false, .int .i64 0, .int .i64 0, .string (⟨#[]⟩ : ByteArray)]), (31, .int .i64 3), (32, .int .i64 2)]) (fun _ => [(b2, .cells #[slcV A00 a0.length, .int .u32 a1, .int .i64 r42, .string r43, .int .i64 r44, .int .i64 r45, slcV A56 r46.length, .int .u64 r47, .int .u64 r48, .bool r49, .int .i64 r50, .bool r51, .int .i64 r52, .int .i64 r53, .string r54] 62 (0, 0)), ((b1 + 1), .cells #[.int .i64 0, .int .i64 0, .slice none 0 0] 35 (0, 0)), ((b1 + 2), .cells #[.int .u64 0, .int .u64 0, .bool false, .int .i64 0, .bool false, .int .i64 0, .int .i64 0, .string (⟨#[]⟩ : ByteArray)] 29 (0, 0))]) (fun _ => [(b1 + 2), (b1 + 2), (b1 + 2), (b1 + 2), (b1 + 2), (b1 + 2), (b1 + 2), (b1 + 2), (b1 + 1), (b1 + 1), (b1 + 1)]) (fun _ => by kernel_rfl) (fun _ => ?_)
          obtain rfl := Option.some.inj hM
          exact WP.ret [1, 1, 1, 2, 2, 2, 2, 2, 2, 2, 2] [(b1 + 1), (b1 + 1), (b1 + 1), (b1 + 2), (b1 + 2), (b1 + 2), (b1 + 2), (b1 + 2), (b1 + 2), (b1 + 2), (b1 + 2)] (.tuple #[.agg #[.int .i64 0, .int .i64 0, slcV (SkL.nil (fun _ => ())) ([] : List Int).length], .agg #[.int .u64 0, .int .u64 0, .bool false, .int .i64 0, .bool false, .int .i64 0, .int .i64 0, .string (⟨#[]⟩ : ByteArray)], .int .i64 3]) (by kernel_rfl) (fun w' hw => ⟨(SkL.nil (fun _ => ())), rfl, (hw.pick [] (by kernel_rfl)).less (sub_ret [3] [4] (by kernel_rfl) (by kernel_rfl))⟩)
        · replace hM := cond_f hM c57
          refine WP.skip ?_
          refine WP.leave ?_
          refine WP.run [] [6, 7, 8, 9, 11, 12, 20, 21, 22, 23, 24, 25, 26, 27, 28, 32] (fun _ => [(6, .pointer (some ⟨(b1 + 1), 0, none⟩)), (7, .pointer (some ⟨(b1 + 2), 0, none⟩)), (8, .int .i64 0), (9, .pointer (some ⟨b2, 0, none⟩)), (11, .int .i64 2), (12, .int .i64 3), (20, .agg #[.int .i64 1, .int .i64 2, .int .i64 3, .int .i64 4]), (21, .int .i64 3), (22, .bool true), (23, .int .i64 2), (24, .int .i64 3), (25, .pointer (some ⟨b2, 0, none⟩)), (26, .int .i64 2), (27, .bool r41), (28, .bool (!r41)), (32, .int .i64 3)]) (fun _ => [(b2, .cells #[slcV A00 a0.length, .int .u32 a1, .int .i64 r42, .string r43, .int .i64 r44, .int .i64 r45, slcV A56 r46.length, .int .u64 r47, .int .u64 r48, .bool r49, .int .i64 r50, .bool r51, .int .i64 r52, .int .i64 r53, .string r54] 62 (0, 0)), ((b1 + 1), .cells #[.int .i64 0, .int .i64 0, .slice none 0 0] 35 (0, 0)), ((b1 + 2), .cells #[.int .u64 0, .int .u64 0, .bool false, .int .i64 0, .bool false, .int .i64 0, .int .i64 0, .string (⟨#[]⟩ : ByteArray)] 29 (0, 0))]) (fun _ => []) (fun _ => by kernel_rfl) (fun _ => ?_)
          refine WP.round ?_
          refine WP.seq ?_
          refine WP.run [] [6, 7, 8, 9, 11, 12, 20, 21, 22, 23, 24, 25, 26, 27, 28, 32] (fun _ => [(6, .pointer (some ⟨(b1 + 1), 0, none⟩)), (7, .pointer (some ⟨(b1 + 2), 0, none⟩)), (8, .int .i64 0), (9, .pointer (some ⟨b2, 0, none⟩)), (11, .int .i64 2), (12, .int .i64 3), (20, .agg #[.int .i64 1, .int .i64 2, .int .i64 3, .int .i64 4]), (21, .int .i64 3), (22, .bool true), (23, .int .i64 2), (24, .int .i64 3), (25, .pointer (some ⟨b2, 0, none⟩)), (26, .int .i64 2), (27, .bool r41), (28, .bool (!r41)), (32, .int .i64 3)]) (fun _ => [(b2, .cells #[slcV A00 a0.length, .int .u32 a1, .int .i64 r42, .string r43, .int .i64 r44, .int .i64 r45, slcV A56 r46.length, .int .u64 r47, .int .u64 r48, .bool r49, .int .i64 r50, .bool r51, .int .i64 r52, .int .i64 r53, .string r54] 62 (0, 0)), ((b1 + 1), .cells #[.int .i64 0, .int .i64 0, .slice none 0 0] 35 (0, 0)), ((b1 + 2), .cells #[.int .u64 0, .int .u64 0, .bool false, .int .i64 0, .bool false, .int .i64 0, .int .i64 0, .string (⟨#[]⟩ : ByteArray)] 29 (0, 0))]) (fun _ => []) (fun _ => by kernel_rfl) (fun _ => ?_)
          refine WP.seq ?_
          refine WP.yes rfl rfl ?_
          refine WP.skip ?_
          refine WP.seq ?_
          refine WP.block ?_
          refine WP.seq ?_
          refine WP.run [] [6, 7, 8, 9, 11, 12, 20, 21, 22, 23, 24, 25, 26, 27, 28, 32] (fun _ => [(6, .pointer (some ⟨(b1 + 1), 0, none⟩)), (7, .pointer (some ⟨(b1 + 2), 0, none⟩)), (8, .int .i64 0), (9, .pointer (some ⟨b2, 0, none⟩)), (11, .int .i64 3), (12, .int .i64 4), (20, .agg #[.int .i64 1, .int .i64 2, .int .i64 3, .int .i64 4]), (21, .int .i64 3), (22, .bool true), (23, .int .i64 3), (24, .int .i64 4), (25, .pointer (some ⟨b2, 0, none⟩)), (26, .int .i64 2), (27, .bool r41), (28, .bool (!r41)), (32, .int .i64 3)]) (fun _ => [(b2, .cells #[slcV A00 a0.length, .int .u32 a1, .int .i64 r42, .string r43, .int .i64 r44, .int .i64 r45, slcV A56 r46.length, .int .u64 r47, .int .u64 r48, .bool r49, .int .i64 r50, .bool r51, .int .i64 r52, .int .i64 r53, .string r54] 62 (0, 0)), ((b1 + 1), .cells #[.int .i64 0, .int .i64 0, .slice none 0 0] 35 (0, 0)), ((b1 + 2), .cells #[.int .u64 0, .int .u64 0, .bool false, .int .i64 0, .bool false, .int .i64 0, .int .i64 0, .string (⟨#[]⟩ : ByteArray)] 29 (0, 0))]) (fun _ => []) (fun _ => by kernel_rfl) (fun _ => ?_)
          refine WP.seq ?_
          refine WP.region ?_
          refine WL.run 2 [] [6, 7, 8, 9, 11, 12, 20, 21, 22, 23, 24, 25, 26, 27, 28, 32] (fun _ => [(6, .pointer (some ⟨(b1 + 1), 0, none⟩)), (7, .pointer (some ⟨(b1 + 2), 0, none⟩)), (8, .int .i64 0), (9, .pointer (some ⟨b2, 0, none⟩)), (11, .int .i64 3), (12, .int .i64 4), (20, .agg #[.int .i64 1, .int .i64 2, .int .i64 3, .int .i64 4]), (21, .int .i64 3), (22, .bool true), (23, .int .i64 3), (24, .int .i64 4), (25, .pointer (some ⟨b2, 0, none⟩)), (26, .int .i64 3), (27, .bool r41), (28, .bool (!r41)), (32, .int .i64 3)]) (fun _ => [(b2, .cells #[slcV A00 a0.length, .int .u32 a1, .int .i64 r42, .string r43, .int .i64 r44, .int .i64 r45, slcV A56 r46.length, .int .u64 r47, .int .u64 r48, .bool r49, .int .i64 r50, .bool r51, .int .i64 r52, .int .i64 r53, .string r54] 62 (0, 0)), ((b1 + 1), .cells #[.int .i64 0, .int .i64 0, .slice none 0 0] 35 (0, 0)), ((b1 + 2), .cells #[.int .u64 0, .int .u64 0, .bool false, .int .i64 0, .bool false, .int .i64 0, .int .i64 0, .string (⟨#[]⟩ : ByteArray)] 29 (0, 0))]) (fun _ => []) (fun _ => by kernel_rfl) (fun _ => ?_)
          obtain ⟨⟨r58, r59, r60, r61, r62, r63, r64, r65, r66, r67, r68, r69, r70, r71⟩, h72, hM⟩ := bind_some hM
          dsimp only at hM
          refine WL.callX (F0 := [Row 3 api_Seg.encS api_Seg.inK A00 a0, Row 1 (pl (encI .u32)) noK A56 r46]) [] [] [true, false, false] (fun _ => _) [4, 0] (by kernel_rfl) (tunnel_opener_step_calls k b2 A00 A56 a0 a1 r42 r43 r44 r45 r46 r47 r48 r49 r50 r51 r52 r53 r54 3 _ h72) rfl rfl (by kernel_rfl) (by kernel_rfl) (fun _ => rfl) (fun A73 => ?_)
          refine WL.run 1 [] [6, 7, 8, 9, 11, 12, 20, 21, 22, 23, 24, 25, 26, 27, 28, 32] (fun _ => [(6, .pointer (some ⟨(b1 + 1), 0, none⟩)), (7, .pointer (some ⟨(b1 + 2), 0, none⟩)), (8, .int .i64 0), (9, .pointer (some ⟨b2, 0, none⟩)), (11, .int .i64 3), (12, .int .i64 4), (20, .agg #[.int .i64 1, .int .i64 2, .int .i64 3, .int .i64 4]), (21, .int .i64 3), (22, .bool true), (23, .int .i64 3), (24, .int .i64 4), (25, .pointer (some ⟨b2, 0, none⟩)), (26, .int .i64 3), (27, .bool r58), (28, .bool (!r58)), (32, .int .i64 3)]) (fun _ => [(b2, .cells #[slcV A00 a0.length, .int .u32 a1, .int .i64 r59, .string r60, .int .i64 r61, .int .i64 r62, slcV A73 r63.length, .int .u64 r64, .int .u64 r65, .bool r66, .int .i64 r67, .bool r68, .int .i64 r69, .int .i64 r70, .string r71] 62 (0, 0)), ((b1 + 1), .cells #[.int .i64 0, .int .i64 0, .slice none 0 0] 35 (0, 0)), ((b1 + 2), .cells #[.int .u64 0, .int .u64 0, .bool false, .int .i64 0, .bool false, .int .i64 0, .int .i64 0, .string (⟨#[]⟩ : ByteArray)] 29 (0, 0))]) (fun _ => []) (fun _ => by kernel_rfl) (fun _ => ?_)
          refine WP.done ?_
          refine WP.cond (!r58) rfl rfl (fun c74 => ?_) (fun c74 => ?_)
          · replace hM := cond_t hM c74
            refine WP.seq ?_
            refine WP.run [1, 1, 1, 2, 2, 2, 2, 2, 2, 2, 2] [6, 7, 8, 9, 11, 12, 20, 21, 22, 23, 24, 25, 26, 27, 28, 29, 30, 31, 32] (fun _ => [(6, .pointer (some ⟨(b1 + 1), 0, none⟩)), (7, .pointer (some ⟨(b1 + 2), 0, none⟩)), (8, .int .i64 4), (9, .pointer (some ⟨b2, 0, none⟩)), (11, .int .i64 3), (12, .int .i64 4), (20, .agg #[.int .i64 1, .int .i64 2, .int .i64 3, .int .i64 4]), (21, .int .i64 3), (22, .bool true), (23, .int .i64 3), (24, .int .i64 4), (25, .pointer (some ⟨b2, 0, none⟩)), (26, .int .i64 3), (27, .bool r58), (28, .bool (!r58)), (29, .agg #[.int .i64 0, .int .i64 0, .slice none 0 0]), (30, .agg #[.int .u64 0, .int .u64 0, .bool false, .int .i64 0, .bool false, .int .i64 0, .int .i64 0, .string (⟨#[]⟩ : ByteArray)]), (31, .int .i64 4), (32, .int .i64 3)]) (fun _ => [(b2, .cells #[slcV A00 a0.length, .int .u32 a1, .int .i64 r59, .string r60, .int .i64 r61, .int .i64 r62, slcV A73 r63.length, .int .u64 r64, .int .u64 r65, .bool r66, .int .i64 r67, .bool r68, .int .i64 r69, .int .i64 r70, .string r71] 62 (0, 0)), ((b1 + 1), .cells #[.int .i64 0, .int .i64 0, .slice none 0 0] 35 (0, 0)), ((b1 + 2), .cells #[.int .u64 0, .int .u64 0, .bool false, .int .i64 0, .bool false, .int .i64 0, .int .i64 0, .string (⟨#[]⟩ : ByteArray)] 29 (0, 0))]) (fun _ => [(b1 + 2), (b1 + 2), (b1 + 2), (b1 + 2), (b1 + 2), (b1 + 2), (b1 + 2), (b1 + 2), (b1 + 1), (b1 + 1), (b1 + 1)]) (fun _ => by kernel_rfl) (fun _ => ?_)
            obtain rfl := Option.some.inj hM
            exact WP.ret [1, 1, 1, 2, 2, 2, 2, 2, 2, 2, 2] [(b1 + 1), (b1 + 1), (b1 + 1), (b1 + 2), (b1 + 2), (b1 + 2), (b1 + 2), (b1 + 2), (b1 + 2), (b1 + 2), (b1 + 2)] (.tuple #[.agg #[.int .i64 0, .int .i64 0, slcV (SkL.nil (fun _ => ())) ([] : List Int).length], .agg #[.int .u64 0, .int .u64 0, .bool false, .int .i64 0, .bool false, .int .i64 0, .int .i64 0, .string (⟨#[]⟩ : ByteArray)], .int .i64 4]) (by kernel_rfl) (fun w' hw => ⟨(SkL.nil (fun _ => ())), rfl, (hw.pick [] (by kernel_rfl)).less (sub_ret [4] [5] (by kernel_rfl) (by kernel_rfl))⟩)
          · replace hM := cond_f hM c74
            refine WP.skip ?_
            refine WP.leave ?_
            refine WP.run [] [6, 7, 8, 9, 11, 12, 20, 21, 22, 23, 24, 25, 26, 27, 28, 32] (fun _ => [(6, .pointer (some ⟨(b1 + 1), 0, none⟩)), (7, .pointer (some ⟨(b1 + 2), 0, none⟩)), (8, .int .i64 0), (9, .pointer (some ⟨b2, 0, none⟩)), (11, .int .i64 3), (12, .int .i64 4), (20, .agg #[.int .i64 1, .int .i64 2, .int .i64 3, .int .i64 4]), (21, .int .i64 4), (22, .bool true), (23, .int .i64 3), (24, .int .i64 4), (25, .pointer (some ⟨b2, 0, none⟩)), (26, .int .i64 3), (27, .bool r58), (28, .bool (!r58)), (32, .int .i64 4)]) (fun _ => [(b2, .cells #[slcV A00 a0.length, .int .u32 a1, .int .i64 r59, .string r60, .int .i64 r61, .int .i64 r62, slcV A73 r63.length, .int .u64 r64, .int .u64 r65, .bool r66, .int .i64 r67, .bool r68, .int .i64 r69, .int .i64 r70, .string r71] 62 (0, 0)), ((b1 + 1), .cells #[.int .i64 0, .int .i64 0, .slice none 0 0] 35 (0, 0)), ((b1 + 2), .cells #[.int .u64 0, .int .u64 0, .bool false, .int .i64 0, .bool false, .int .i64 0, .int .i64 0, .string (⟨#[]⟩ : ByteArray)] 29 (0, 0))]) (fun _ => []) (fun _ => by kernel_rfl) (fun _ => ?_)
            refine WP.round ?_
            refine WP.seq ?_
            refine WP.run [] [6, 7, 8, 9, 11, 12, 20, 21, 22, 23, 24, 25, 26, 27, 28, 32] (fun _ => [(6, .pointer (some ⟨(b1 + 1), 0, none⟩)), (7, .pointer (some ⟨(b1 + 2), 0, none⟩)), (8, .int .i64 0), (9, .pointer (some ⟨b2, 0, none⟩)), (11, .int .i64 3), (12, .int .i64 4), (20, .agg #[.int .i64 1, .int .i64 2, .int .i64 3, .int .i64 4]), (21, .int .i64 4), (22, .bool false), (23, .int .i64 3), (24, .int .i64 4), (25, .pointer (some ⟨b2, 0, none⟩)), (26, .int .i64 3), (27, .bool r58), (28, .bool (!r58)), (32, .int .i64 4)]) (fun _ => [(b2, .cells #[slcV A00 a0.length, .int .u32 a1, .int .i64 r59, .string r60, .int .i64 r61, .int .i64 r62, slcV A73 r63.length, .int .u64 r64, .int .u64 r65, .bool r66, .int .i64 r67, .bool r68, .int .i64 r69, .int .i64 r70, .string r71] 62 (0, 0)), ((b1 + 1), .cells #[.int .i64 0, .int .i64 0, .slice none 0 0] 35 (0, 0)), ((b1 + 2), .cells #[.int .u64 0, .int .u64 0, .bool false, .int .i64 0, .bool false, .int .i64 0, .int .i64 0, .string (⟨#[]⟩ : ByteArray)] 29 (0, 0))]) (fun _ => []) (fun _ => by kernel_rfl) (fun _ => ?_)
            refine WP.seq ?_
            refine WP.no rfl rfl ?_
            refine WP.exit rfl ?_
            exact WP.sub [6, 7, 8, 9] (by kernel_rfl) (WP.pick [1, 2, 0] (by kernel_rfl) (by kernel_rfl) (WP.lessF [0, 4, 5] (by kernel_rfl) (K1 (0, r59, r60, r61, r62, r63, A73, r64, r65, r66, r67, r68, r69, r70, r71) hM)))

end Go.Proofs.YtbodofjnfmjbpaaGreatDoor

namespace Go.Proofs.YtbodofjnfmjbpaaGreatDoor
open Go Eng
set_option linter.unusedVariables false
set_option linter.unusedSimpArgs false

/-! ### gangway/ether.tag: function 63 -/
def ether_tag.f (a0 : api_Tag) : Option (Bool) :=
  bif !a0.Has then
    some ((a0.Has == false) && ((a0.Pri == 0) && ((a0.Dei == false) && ((a0.Vid == 0) && true))))
  else
    some ((((decide (a0.Pri ≥ 0)) && (decide (a0.Pri < 8))) && (decide (a0.Vid ≥ 0))) && (decide (a0.Vid < 4096)))

set_option maxRecDepth 100000 in
theorem ether_tag_calls (a0 : api_Tag) (r : Bool) (h : ether_tag.f a0 = some r) : Pure Tryz.prog Glob 63 #[.agg #[.bool a0.Has, .int .i64 a0.Pri, .bool a0.Dei, .int .i64 a0.Vid]] (.bool r) := by
  intro w Z hS
  refine calls_of (args := [.agg #[.bool a0.Has, .int .i64 a0.Pri, .bool a0.Dei, .int .i64 a0.Vid]]) (L := [(0, .agg #[.bool a0.Has, .int .i64 a0.Pri, .bool a0.Dei, .int .i64 a0.Vid])]) (N := 27) (S := Sat w Z [] [] Glob) Tryz.func63 rfl rfl (Nat.le_of_ble_eq_true rfl) rfl hS ?_
  have hM := h
  clear h hS
  unfold ether_tag.f at hM
  refine WP.seq ?_
  refine WP.run [] [1, 2] (fun b1 => [(1, .pointer (some ⟨b1, 0, none⟩)), (2, .bool false)]) (fun b1 => [(b1, .cells #[.bool a0.Has, .int .i64 a0.Pri, .bool a0.Dei, .int .i64 a0.Vid] 27 (0, 0))]) (fun b1 => []) (fun b1 => by kernel_rfl) (fun b1 => ?_)
  refine WP.seq ?_
  refine WP.seq ?_
  refine WP.run [0] [1, 2, 5] (fun _ => [(1, .pointer (some ⟨b1, 0, none⟩)), (2, .bool false), (5, .bool (!a0.Has))]) (fun _ => [(b1, .cells #[.bool a0.Has, .int .i64 a0.Pri, .bool a0.Dei, .int .i64 a0.Vid] 27 (0, 0))]) (fun _ => [b1]) (fun _ => by kernel_rfl) (fun _ => ?_)
  refine WP.cond (!a0.Has) rfl rfl (fun c2 => ?_) (fun c2 => ?_)
  · replace hM := cond_t hM c2
    refine WP.seq ?_
    refine WP.region ?_
    refine WL.run 2 [0, 0, 0, 0] [1, 2, 6, 7] (fun _ => [(1, .pointer (some ⟨b1, 0, none⟩)), (2, .bool false), (6, .agg #[.bool a0.Has, .int .i64 a0.Pri, .bool a0.Dei, .int .i64 a0.Vid]), (7, .agg #[.bool false, .int .i64 0, .bool false, .int .i64 0])]) (fun _ => [(b1, .cells #[.bool a0.Has, .int .i64 a0.Pri, .bool a0.Dei, .int .i64 a0.Vid] 27 (0, 0))]) (fun _ => [b1, b1, b1, b1]) (fun _ => by kernel_rfl) (fun _ => ?_)
    refine WL.val (fun _ => run_structEq (xs := #[.bool a0.Has, .int .i64 a0.Pri, .bool a0.Dei, .int .i64 a0.Vid]) (ys := #[.bool false, .int .i64 0, .bool false, .int .i64 0]) (b := ((a0.Has == false) && ((a0.Pri == 0) && ((a0.Dei == false) && ((a0.Vid == 0) && true))))) (by kernel_rfl) (by kernel_rfl) (by kernel_rfl) (by kernel_rfl)) (by kernel_rfl) (by kernel_rfl) rfl ?_
    refine WL.run 1 [] [1, 2] (fun _ => [(1, .pointer (some ⟨b1, 0, none⟩)), (2, .bool ((a0.Has == false) && ((a0.Pri == 0) && ((a0.Dei == false) && ((a0.Vid == 0) && true)))))]) (fun _ => [(b1, .cells #[.bool a0.Has, .int .i64 a0.Pri, .bool a0.Dei, .int .i64 a0.Vid] 27 (0, 0))]) (fun _ => []) (fun _ => by kernel_rfl) (fun _ => ?_)
    refine WP.done ?_
    obtain rfl := Option.some.inj hM
    exact WP.ret [] [] (.bool ((a0.Has == false) && ((a0.Pri == 0) && ((a0.Dei == false) && ((a0.Vid == 0) && true))))) (by kernel_rfl) (fun w' hw => ⟨rfl, hw.pick [] rfl⟩)
  · replace hM := cond_f hM c2
    refine WP.skip ?_
    refine WP.seq ?_
    refine WP.region ?_
    refine WL.run 4 [0] [1, 2, 12] (fun _ => [(1, .pointer (some ⟨b1, 0, none⟩)), (2, .bool false), (12, .bool (decide (a0.Pri ≥ 0)))]) (fun _ => [(b1, .cells #[.bool a0.Has, .int .i64 a0.Pri, .bool a0.Dei, .int .i64 a0.Vid] 27 (0, 0))]) (fun _ => [b1]) (fun _ => by kernel_rfl) (fun _ => ?_)
    refine WL.sub [1, 2, 12] (L' := [(1, .pointer (some ⟨b1, 0, none⟩)), (2, .bool false), (12, .bool (decide (a0.Pri ≥ 0)))]) (by kernel_rfl) ?_
    refine WL.both (fun b' => [(1, .pointer (some ⟨b1, 0, none⟩)), (2, .bool false), (12, .bool b')]) (decide (a0.Pri ≥ 0)) 4 [0] [] [1, 2, 16] (fun b' => [(1, .pointer (some ⟨b1, 0, none⟩)), (2, .bool false), (16, .bool (b' && (decide (a0.Pri < 8))))]) [b1] [] (fun _ => by kernel_rfl) (fun _ => by kernel_rfl) ?_
    refine WL.run 1 [] [1, 2, 17] (fun _ => [(1, .pointer (some ⟨b1, 0, none⟩)), (2, .bool false), (17, .bool ((decide (a0.Pri ≥ 0)) && (decide (a0.Pri < 8))))]) (fun _ => [(b1, .cells #[.bool a0.Has, .int .i64 a0.Pri, .bool a0.Dei, .int .i64 a0.Vid] 27 (0, 0))]) (fun _ => []) (fun _ => by kernel_rfl) (fun _ => ?_)
    refine WL.sub [1, 2, 17] (L' := [(1, .pointer (some ⟨b1, 0, none⟩)), (2, .bool false), (17, .bool ((decide (a0.Pri ≥ 0)) && (decide (a0.Pri < 8))))]) (by kernel_rfl) ?_
    refine WL.both (fun b' => [(1, .pointer (some ⟨b1, 0, none⟩)), (2, .bool false), (17, .bool b')]) ((decide (a0.Pri ≥ 0)) && (decide (a0.Pri < 8))) 4 [0] [] [1, 2, 21] (fun b' => [(1, .pointer (some ⟨b1, 0, none⟩)), (2, .bool false), (21, .bool (b' && (decide (a0.Vid ≥ 0))))]) [b1] [] (fun _ => by kernel_rfl) (fun _ => by kernel_rfl) ?_
    refine WL.run 1 [] [1, 2, 22] (fun _ => [(1, .pointer (some ⟨b1, 0, none⟩)), (2, .bool false), (22, .bool (((decide (a0.Pri ≥ 0)) && (decide (a0.Pri < 8))) && (decide (a0.Vid ≥ 0))))]) (fun _ => [(b1, .cells #[.bool a0.Has, .int .i64 a0.Pri, .bool a0.Dei, .int .i64 a0.Vid] 27 (0, 0))]) (fun _ => []) (fun _ => by kernel_rfl) (fun _ => ?_)
    refine WL.sub [1, 2, 22] (L' := [(1, .pointer (some ⟨b1, 0, none⟩)), (2, .bool false), (22, .bool (((decide (a0.Pri ≥ 0)) && (decide (a0.Pri < 8))) && (decide (a0.Vid ≥ 0))))]) (by kernel_rfl) ?_
    refine WL.both (fun b' => [(1, .pointer (some ⟨b1, 0, none⟩)), (2, .bool false), (22, .bool b')]) (((decide (a0.Pri ≥ 0)) && (decide (a0.Pri < 8))) && (decide (a0.Vid ≥ 0))) 4 [0] [] [2, 26] (fun b' => [(2, .bool false), (26, .bool (b' && (decide (a0.Vid < 4096))))]) [b1] [] (fun _ => by kernel_rfl) (fun _ => by kernel_rfl) ?_
    refine WL.run 1 [] [2] (fun _ => [(2, .bool ((((decide (a0.Pri ≥ 0)) && (decide (a0.Pri < 8))) && (decide (a0.Vid ≥ 0))) && (decide (a0.Vid < 4096))))]) (fun _ => [(b1, .cells #[.bool a0.Has, .int .i64 a0.Pri, .bool a0.Dei, .int .i64 a0.Vid] 27 (0, 0))]) (fun _ => []) (fun _ => by kernel_rfl) (fun _ => ?_)
    refine WP.done ?_
    refine WP.keep [false] (by kernel_rfl : _ = []) ?_
    obtain rfl := Option.some.inj hM
    exact WP.ret [] [] (.bool ((((decide (a0.Pri ≥ 0)) && (decide (a0.Pri < 8))) && (decide (a0.Vid ≥ 0))) && (decide (a0.Vid < 4096)))) (by kernel_rfl) (fun w' hw => ⟨rfl, hw.pick [] rfl⟩)

end Go.Proofs.YtbodofjnfmjbpaaGreatDoor

namespace Go.Proofs.YtbodofjnfmjbpaaGreatDoor
open Go Eng
set_option linter.unusedVariables false
set_option linter.unusedSimpArgs false

/-! ### gangway/ether.size: function 64 -/
def ether_size.k1 (x3 : Int) : Option (Int) :=
  some x3

def ether_size.f (a0 : api_Frame) : Option (Int) :=
  bif a0.Tag.Has then
    ether_size.k1 (i64 ((i64 (14 + (a0.Body.size : Int))) + 4))
  else
    ether_size.k1 (i64 (14 + (a0.Body.size : Int)))

set_option maxRecDepth 100000 in
theorem ether_size_calls (a0 : api_Frame) (r : Int) (h : ether_size.f a0 = some r) : Pure Tryz.prog Glob 64 #[.agg #[.int .u64 a0.Dst, .int .u64 a0.Src, .bool a0.Tag.Has, .int .i64 a0.Tag.Pri, .bool a0.Tag.Dei, .int .i64 a0.Tag.Vid, .int .i64 a0.Type_, .string a0.Body]] (.int .i64 r) := by
  intro w Z hS
  refine calls_of (args := [.agg #[.int .u64 a0.Dst, .int .u64 a0.Src, .bool a0.Tag.Has, .int .i64 a0.Tag.Pri, .bool a0.Tag.Dei, .int .i64 a0.Tag.Vid, .int .i64 a0.Type_, .string a0.Body]]) (L := [(0, .agg #[.int .u64 a0.Dst, .int .u64 a0.Src, .bool a0.Tag.Has, .int .i64 a0.Tag.Pri, .bool a0.Tag.Dei, .int .i64 a0.Tag.Vid, .int .i64 a0.Type_, .string a0.Body])]) (N := 14) (S := Sat w Z [] [] Glob) Tryz.func64 rfl rfl (Nat.le_of_ble_eq_true rfl) rfl hS ?_
  have hM := h
  clear h hS
  unfold ether_size.f at hM
  refine WP.seq ?_
  refine WP.run [] [1, 2] (fun b1 => [(1, .pointer (some ⟨b1, 0, none⟩)), (2, .int .i64 0)]) (fun b1 => [(b1, .cells #[.int .u64 a0.Dst, .int .u64 a0.Src, .bool a0.Tag.Has, .int .i64 a0.Tag.Pri, .bool a0.Tag.Dei, .int .i64 a0.Tag.Vid, .int .i64 a0.Type_, .string a0.Body] 29 (0, 0))]) (fun b1 => []) (fun b1 => by kernel_rfl) (fun b1 => ?_)
  refine WP.seq ?_
  refine WP.run [0] [1, 2, 3] (fun _ => [(1, .pointer (some ⟨b1, 0, none⟩)), (2, .int .i64 0), (3, .int .i64 (i64 (14 + (a0.Body.size : Int))))]) (fun _ => [(b1, .cells #[.int .u64 a0.Dst, .int .u64 a0.Src, .bool a0.Tag.Has, .int .i64 a0.Tag.Pri, .bool a0.Tag.Dei, .int .i64 a0.Tag.Vid, .int .i64 a0.Type_, .string a0.Body] 29 (0, 0))]) (fun _ => [b1]) (fun _ => by kernel_rfl) (fun _ => ?_)
  refine WP.seqJoin (σ := Int) (fun st => ether_size.k1 st = some r) (fun st => [(2, .int .i64 0), (3, .int .i64 st)]) (fun st => Sat w Z [] [] Glob) (fun st hM => ?_) (fun K1 => ?_)
  ·
    obtain ⟨x3, rfl⟩ : ∃ y, y = st := ⟨st, rfl⟩
    replace hM : ether_size.k1 x3 = some r := hM
    unfold ether_size.k1 at hM
    show WP _ _ _ _ _ [(2, .int .i64 0), (3, .int .i64 x3)] (Sat w Z [] [] Glob)
    refine WP.seq ?_
    refine WP.run [] [2] (fun _ => [(2, .int .i64 x3)]) (fun _ => []) (fun _ => []) (fun _ => by kernel_rfl) (fun _ => ?_)
    obtain rfl := Option.some.inj hM
    exact WP.ret [] [] (.int .i64 x3) (by kernel_rfl) (fun w' hw => ⟨rfl, hw.pick [] rfl⟩)
  ·
    refine WP.seq ?_
    refine WP.run [0] [2, 3, 10] (fun _ => [(2, .int .i64 0), (3, .int .i64 (i64 (14 + (a0.Body.size : Int)))), (10, .bool a0.Tag.Has)]) (fun _ => [(b1, .cells #[.int .u64 a0.Dst, .int .u64 a0.Src, .bool a0.Tag.Has, .int .i64 a0.Tag.Pri, .bool a0.Tag.Dei, .int .i64 a0.Tag.Vid, .int .i64 a0.Type_, .string a0.Body] 29 (0, 0))]) (fun _ => [b1]) (fun _ => by kernel_rfl) (fun _ => ?_)
    refine WP.keep [false] (by kernel_rfl : _ = []) ?_
    refine WP.cond a0.Tag.Has rfl rfl (fun c2 => ?_) (fun c2 => ?_)
    · replace hM := cond_t hM c2
      refine WP.run [] [2, 3] (fun _ => [(2, .int .i64 0), (3, .int .i64 (i64 ((i64 (14 + (a0.Body.size : Int))) + 4)))]) (fun _ => []) (fun _ => []) (fun _ => by kernel_rfl) (fun _ => ?_)
      exact WP.sub [2, 3] (by kernel_rfl) (WP.pick [] (by kernel_rfl) (by kernel_rfl) (K1 (i64 ((i64 (14 + (a0.Body.size : Int))) + 4)) hM))
    · replace hM := cond_f hM c2
      refine WP.skip ?_
      exact WP.sub [2, 3] (by kernel_rfl) (WP.pick [] (by kernel_rfl) (by kernel_rfl) (K1 (i64 (14 + (a0.Body.size : Int))) hM))

end Go.Proofs.YtbodofjnfmjbpaaGreatDoor
