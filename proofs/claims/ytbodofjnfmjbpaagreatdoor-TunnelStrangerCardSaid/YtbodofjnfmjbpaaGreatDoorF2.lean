/- The walks of the functions that the laws reach: each shows that a call returns what its plain model says, wherever the model gives an answer. -/
import Derived.Test.YtbodofjnfmjbpaaGreatDoorF1

namespace Go.Proofs.YtbodofjnfmjbpaaGreatDoor
open Go Eng
set_option linter.unusedVariables false
set_option linter.unusedSimpArgs false

/-! ### gangway/ether.Parse: function 50 -/
def ether_Parse.f (k : Nat) (a0 : ByteArray) : Option (api_Frame × Int) :=
  bif decide ((a0.size : Int) > 1600) then
    some ((api_Frame.mk 0 0 (api_Tag.mk false 0 false 0) 0 (⟨#[]⟩ : ByteArray)), 41)
  else
    (ether_reader_frame.f k (ether_reader.mk a0 0)).bind fun (r4, r5, r6) =>
    match r5 with
    | none =>
      (errors_Is.f 40).bind fun r9 =>
      bif r9 then
        some ((api_Frame.mk 0 0 (api_Tag.mk false 0 false 0) 0 (⟨#[]⟩ : ByteArray)), 40)
      else
        some (r4, 0)
    | some (q12, q13) =>
      (errors_Is_1.f q12 q13 40).bind fun r14 =>
      bif r14 then
        some ((api_Frame.mk 0 0 (api_Tag.mk false 0 false 0) 0 (⟨#[]⟩ : ByteArray)), 40)
      else
        (ether_number.f q12 q13).bind fun r17 =>
        some ((api_Frame.mk 0 0 (api_Tag.mk false 0 false 0) 0 (⟨#[]⟩ : ByteArray)), r17)

set_option maxRecDepth 100000 in
theorem ether_Parse_calls (k : Nat) (a0 : ByteArray) (r : api_Frame × Int) (h : ether_Parse.f k a0 = some r) : Pure Tryz.prog Glob 50 #[.string a0] (.tuple #[.agg #[.int .u64 r.1.Dst, .int .u64 r.1.Src, .bool r.1.Tag.Has, .int .i64 r.1.Tag.Pri, .bool r.1.Tag.Dei, .int .i64 r.1.Tag.Vid, .int .i64 r.1.Type_, .string r.1.Body], .int .i64 r.2]) := by
  intro w Z hS
  refine calls_of (args := [.string a0]) (L := [(0, .string a0)]) (N := 31) (S := Sat w Z [] [] Glob) Tryz.func50 rfl rfl (Nat.le_of_ble_eq_true rfl) rfl hS ?_
  have hM := h
  clear h hS
  unfold ether_Parse.f at hM
  refine WP.seq ?_
  refine WP.run [] [0, 2, 3] (fun b1 => [(0, .string a0), (2, .pointer (some ⟨b1, 0, none⟩)), (3, .int .i64 0)]) (fun b1 => [(b1, .cells #[.int .u64 0, .int .u64 0, .bool false, .int .i64 0, .bool false, .int .i64 0, .int .i64 0, .string (⟨#[]⟩ : ByteArray)] 29 (0, 0))]) (fun b1 => []) (fun b1 => by kernel_rfl) (fun b1 => ?_)
  refine WP.seq ?_
  refine WP.seq ?_
  refine WP.run [] [0, 2, 3, 9] (fun _ => [(0, .string a0), (2, .pointer (some ⟨b1, 0, none⟩)), (3, .int .i64 0), (9, .bool (decide ((a0.size : Int) > 1600)))]) (fun _ => [(b1, .cells #[.int .u64 0, .int .u64 0, .bool false, .int .i64 0, .bool false, .int .i64 0, .int .i64 0, .string (⟨#[]⟩ : ByteArray)] 29 (0, 0))]) (fun _ => []) (fun _ => by kernel_rfl) (fun _ => ?_)
  refine WP.cond (decide ((a0.size : Int) > 1600)) rfl rfl (fun c2 => ?_) (fun c2 => ?_)
  · replace hM := cond_t hM c2
    refine WP.seq ?_
    refine WP.run [0, 0, 0, 0, 0, 0, 0, 0] [0, 2, 3] (fun _ => [(0, .string a0), (2, .pointer (some ⟨b1, 0, none⟩)), (3, .int .i64 41)]) (fun _ => [(b1, .cells #[.int .u64 0, .int .u64 0, .bool false, .int .i64 0, .bool false, .int .i64 0, .int .i64 0, .string (⟨#[]⟩ : ByteArray)] 29 (0, 0))]) (fun _ => [b1, b1, b1, b1, b1, b1, b1, b1]) (fun _ => by kernel_rfl) (fun _ => ?_)
    obtain rfl := Option.some.inj hM
    exact WP.ret [0, 0, 0, 0, 0, 0, 0, 0] [b1, b1, b1, b1, b1, b1, b1, b1] (.tuple #[.agg #[.int .u64 0, .int .u64 0, .bool false, .int .i64 0, .bool false, .int .i64 0, .int .i64 0, .string (⟨#[]⟩ : ByteArray)], .int .i64 41]) (by kernel_rfl) (fun w' hw => ⟨rfl, hw.pick [] rfl⟩)
  · replace hM := cond_f hM c2
    refine WP.skip ?_
    refine WP.seq ?_
    refine WP.run [] [2, 3, 4] (fun b3 => [(2, .pointer (some ⟨b1, 0, none⟩)), (3, .int .i64 0), (4, .pointer (some ⟨b3, 0, none⟩))]) (fun b3 => [(b1, .cells #[.int .u64 0, .int .u64 0, .bool false, .int .i64 0, .bool false, .int .i64 0, .int .i64 0, .string (⟨#[]⟩ : ByteArray)] 29 (0, 0)), (b3, .cells #[.string a0, .int .i64 0] 132 (0, 0))]) (fun b3 => []) (fun b3 => by kernel_rfl) (fun b3 => ?_)
    refine WP.seq ?_
    refine WP.region ?_
    refine WL.run 1 [] [2, 3, 15] (fun _ => [(2, .pointer (some ⟨b1, 0, none⟩)), (3, .int .i64 0), (15, .pointer (some ⟨b3, 0, none⟩))]) (fun _ => [(b1, .cells #[.int .u64 0, .int .u64 0, .bool false, .int .i64 0, .bool false, .int .i64 0, .int .i64 0, .string (⟨#[]⟩ : ByteArray)] 29 (0, 0)), (b3, .cells #[.string a0, .int .i64 0] 132 (0, 0))]) (fun _ => []) (fun _ => by kernel_rfl) (fun _ => ?_)
    obtain ⟨⟨r4, r5, r6⟩, h7, hM⟩ := bind_some hM
    dsimp only at hM
    refine WL.callE (X := Unit) [] [] [false, true] (fun _ => _) (ether_reader_frame_calls k b3 (ether_reader.mk a0 0) _ h7) rfl rfl (fun _ h => h) (by kernel_rfl) (by kernel_rfl) (fun _ => rfl) (fun _ => ?_)
    refine WL.run 6 [2, 2, 2, 2, 2, 2, 2, 2] [2, 3, 5, 6] (fun b8 => [(2, .pointer (some ⟨b1, 0, none⟩)), (3, .int .i64 0), (5, .pointer (some ⟨b8, 0, none⟩)), (6, Un1.v r5)]) (fun b8 => [(b3, .cells #[.string r6.s, .int .i64 r6.at_] 132 (0, 0)), (b1, .cells #[.int .u64 0, .int .u64 0, .bool false, .int .i64 0, .bool false, .int .i64 0, .int .i64 0, .string (⟨#[]⟩ : ByteArray)] 29 (0, 0)), (b8, .cells #[.int .u64 r4.Dst, .int .u64 r4.Src, .bool r4.Tag.Has, .int .i64 r4.Tag.Pri, .bool r4.Tag.Dei, .int .i64 r4.Tag.Vid, .int .i64 r4.Type_, .string r4.Body] 29 (0, 0))]) (fun b8 => [b8, b8, b8, b8, b8, b8, b8, b8]) (fun b8 => by kernel_rfl) (fun b8 => ?_)
    refine WP.done ?_
    refine WP.keep [false, true, true] (by kernel_rfl : _ = [(b1, .cells #[.int .u64 0, .int .u64 0, .bool false, .int .i64 0, .bool false, .int .i64 0, .int .i64 0, .string (⟨#[]⟩ : ByteArray)] 29 (0, 0)), (b8, .cells #[.int .u64 r4.Dst, .int .u64 r4.Src, .bool r4.Tag.Has, .int .i64 r4.Tag.Pri, .bool r4.Tag.Dei, .int .i64 r4.Tag.Vid, .int .i64 r4.Type_, .string r4.Body] 29 (0, 0))]) ?_
    refine WP.seq ?_
    refine WP.block ?_
    refine WP.seq ?_
    refine WP.region ?_
    refine WL.run 2 [] [2, 3, 5, 6, 20, 21] (fun _ => [(2, .pointer (some ⟨b1, 0, none⟩)), (3, .int .i64 0), (5, .pointer (some ⟨b8, 0, none⟩)), (6, Un1.v r5), (20, Un1.v r5), (21, .iface 30 (.int .i64 40))]) (fun _ => [(b1, .cells #[.int .u64 0, .int .u64 0, .bool false, .int .i64 0, .bool false, .int .i64 0, .int .i64 0, .string (⟨#[]⟩ : ByteArray)] 29 (0, 0)), (b8, .cells #[.int .u64 r4.Dst, .int .u64 r4.Src, .bool r4.Tag.Has, .int .i64 r4.Tag.Pri, .bool r4.Tag.Dei, .int .i64 r4.Tag.Vid, .int .i64 r4.Type_, .string r4.Body] 29 (0, 0))]) (fun _ => []) (fun _ => by kernel_rfl) (fun _ => ?_)
    rcases r5 with _ | ⟨q12, q13⟩
    · dsimp only at hM
      obtain ⟨r9, h10, hM⟩ := bind_some hM
      refine WL.callP [] [] (errors_Is_calls 40 _ h10) (fun _ h => h) (by kernel_rfl) (by kernel_rfl) rfl ?_
      refine WL.run 1 [] [2, 3, 5, 6, 19] (fun _ => [(2, .pointer (some ⟨b1, 0, none⟩)), (3, .int .i64 0), (5, .pointer (some ⟨b8, 0, none⟩)), (6, .nilIface), (19, .bool r9)]) (fun _ => [(b1, .cells #[.int .u64 0, .int .u64 0, .bool false, .int .i64 0, .bool false, .int .i64 0, .int .i64 0, .string (⟨#[]⟩ : ByteArray)] 29 (0, 0)), (b8, .cells #[.int .u64 r4.Dst, .int .u64 r4.Src, .bool r4.Tag.Has, .int .i64 r4.Tag.Pri, .bool r4.Tag.Dei, .int .i64 r4.Tag.Vid, .int .i64 r4.Type_, .string r4.Body] 29 (0, 0))]) (fun _ => []) (fun _ => by kernel_rfl) (fun _ => ?_)
      refine WP.done ?_
      refine WP.cond r9 rfl rfl (fun c11 => ?_) (fun c11 => ?_)
      · replace hM := cond_t hM c11
        refine WP.seq ?_
        refine WP.run [0, 0, 0, 0, 0, 0, 0, 0] [2, 3, 5] (fun _ => [(2, .pointer (some ⟨b1, 0, none⟩)), (3, .int .i64 40), (5, .pointer (some ⟨b8, 0, none⟩))]) (fun _ => [(b1, .cells #[.int .u64 0, .int .u64 0, .bool false, .int .i64 0, .bool false, .int .i64 0, .int .i64 0, .string (⟨#[]⟩ : ByteArray)] 29 (0, 0)), (b8, .cells #[.int .u64 r4.Dst, .int .u64 r4.Src, .bool r4.Tag.Has, .int .i64 r4.Tag.Pri, .bool r4.Tag.Dei, .int .i64 r4.Tag.Vid, .int .i64 r4.Type_, .string r4.Body] 29 (0, 0))]) (fun _ => [b1, b1, b1, b1, b1, b1, b1, b1]) (fun _ => by kernel_rfl) (fun _ => ?_)
        obtain rfl := Option.some.inj hM
        exact WP.ret [0, 0, 0, 0, 0, 0, 0, 0] [b1, b1, b1, b1, b1, b1, b1, b1] (.tuple #[.agg #[.int .u64 0, .int .u64 0, .bool false, .int .i64 0, .bool false, .int .i64 0, .int .i64 0, .string (⟨#[]⟩ : ByteArray)], .int .i64 40]) (by kernel_rfl) (fun w' hw => ⟨rfl, hw.pick [] rfl⟩)
      · replace hM := cond_f hM c11
        refine WP.seq ?_
        refine WP.run [] [2, 3, 5, 6, 24] (fun _ => [(2, .pointer (some ⟨b1, 0, none⟩)), (3, .int .i64 0), (5, .pointer (some ⟨b8, 0, none⟩)), (6, .nilIface), (24, .bool false)]) (fun _ => [(b1, .cells #[.int .u64 0, .int .u64 0, .bool false, .int .i64 0, .bool false, .int .i64 0, .int .i64 0, .string (⟨#[]⟩ : ByteArray)] 29 (0, 0)), (b8, .cells #[.int .u64 r4.Dst, .int .u64 r4.Src, .bool r4.Tag.Has, .int .i64 r4.Tag.Pri, .bool r4.Tag.Dei, .int .i64 r4.Tag.Vid, .int .i64 r4.Type_, .string r4.Body] 29 (0, 0))]) (fun _ => []) (fun _ => by kernel_rfl) (fun _ => ?_)
        refine WP.no rfl rfl ?_
        refine WP.skip ?_
        refine WP.leave ?_
        refine WP.seq ?_
        refine WP.run [1, 1, 1, 1, 1, 1, 1, 1, 0, 0, 0, 0, 0, 0, 0, 0] [2, 3] (fun _ => [(2, .pointer (some ⟨b1, 0, none⟩)), (3, .int .i64 0)]) (fun _ => [(b1, .cells #[.int .u64 r4.Dst, .int .u64 r4.Src, .bool r4.Tag.Has, .int .i64 r4.Tag.Pri, .bool r4.Tag.Dei, .int .i64 r4.Tag.Vid, .int .i64 r4.Type_, .string r4.Body] 29 (0, 0)), (b8, .cells #[.int .u64 r4.Dst, .int .u64 r4.Src, .bool r4.Tag.Has, .int .i64 r4.Tag.Pri, .bool r4.Tag.Dei, .int .i64 r4.Tag.Vid, .int .i64 r4.Type_, .string r4.Body] 29 (0, 0))]) (fun _ => [b1, b1, b1, b1, b1, b1, b1, b1, b8, b8, b8, b8, b8, b8, b8, b8]) (fun _ => by kernel_rfl) (fun _ => ?_)
        refine WP.keep [true, false] (by kernel_rfl : _ = [(b1, .cells #[.int .u64 r4.Dst, .int .u64 r4.Src, .bool r4.Tag.Has, .int .i64 r4.Tag.Pri, .bool r4.Tag.Dei, .int .i64 r4.Tag.Vid, .int .i64 r4.Type_, .string r4.Body] 29 (0, 0))]) ?_
        obtain rfl := Option.some.inj hM
        exact WP.ret [0, 0, 0, 0, 0, 0, 0, 0] [b1, b1, b1, b1, b1, b1, b1, b1] (.tuple #[.agg #[.int .u64 r4.Dst, .int .u64 r4.Src, .bool r4.Tag.Has, .int .i64 r4.Tag.Pri, .bool r4.Tag.Dei, .int .i64 r4.Tag.Vid, .int .i64 r4.Type_, .string r4.Body], .int .i64 0]) (by kernel_rfl) (fun w' hw => ⟨rfl, hw.pick [] rfl⟩)
    · dsimp only at hM
      obtain ⟨r14, h15, hM⟩ := bind_some hM
      refine WL.callP [] [] (errors_Is_1_calls q12 q13 40 _ h15) (fun _ h => h) (by kernel_rfl) (by kernel_rfl) rfl ?_
      refine WL.run 1 [] [2, 3, 5, 6, 19] (fun _ => [(2, .pointer (some ⟨b1, 0, none⟩)), (3, .int .i64 0), (5, .pointer (some ⟨b8, 0, none⟩)), (6, .iface 183 (.agg #[.string q12, .iface 30 (.int .i64 q13)])), (19, .bool r14)]) (fun _ => [(b1, .cells #[.int .u64 0, .int .u64 0, .bool false, .int .i64 0, .bool false, .int .i64 0, .int .i64 0, .string (⟨#[]⟩ : ByteArray)] 29 (0, 0)), (b8, .cells #[.int .u64 r4.Dst, .int .u64 r4.Src, .bool r4.Tag.Has, .int .i64 r4.Tag.Pri, .bool r4.Tag.Dei, .int .i64 r4.Tag.Vid, .int .i64 r4.Type_, .string r4.Body] 29 (0, 0))]) (fun _ => []) (fun _ => by kernel_rfl) (fun _ => ?_)
      refine WP.done ?_
      refine WP.cond r14 rfl rfl (fun c16 => ?_) (fun c16 => ?_)
      · replace hM := cond_t hM c16
        refine WP.seq ?_
        refine WP.run [0, 0, 0, 0, 0, 0, 0, 0] [2, 3, 5] (fun _ => [(2, .pointer (some ⟨b1, 0, none⟩)), (3, .int .i64 40), (5, .pointer (some ⟨b8, 0, none⟩))]) (fun _ => [(b1, .cells #[.int .u64 0, .int .u64 0, .bool false, .int .i64 0, .bool false, .int .i64 0, .int .i64 0, .string (⟨#[]⟩ : ByteArray)] 29 (0, 0)), (b8, .cells #[.int .u64 r4.Dst, .int .u64 r4.Src, .bool r4.Tag.Has, .int .i64 r4.Tag.Pri, .bool r4.Tag.Dei, .int .i64 r4.Tag.Vid, .int .i64 r4.Type_, .string r4.Body] 29 (0, 0))]) (fun _ => [b1, b1, b1, b1, b1, b1, b1, b1]) (fun _ => by kernel_rfl) (fun _ => ?_)
        obtain rfl := Option.some.inj hM
        exact WP.ret [0, 0, 0, 0, 0, 0, 0, 0] [b1, b1, b1, b1, b1, b1, b1, b1] (.tuple #[.agg #[.int .u64 0, .int .u64 0, .bool false, .int .i64 0, .bool false, .int .i64 0, .int .i64 0, .string (⟨#[]⟩ : ByteArray)], .int .i64 40]) (by kernel_rfl) (fun w' hw => ⟨rfl, hw.pick [] rfl⟩)
      · replace hM := cond_f hM c16
        refine WP.seq ?_
        refine WP.run [] [2, 3, 5, 6, 24] (fun _ => [(2, .pointer (some ⟨b1, 0, none⟩)), (3, .int .i64 0), (5, .pointer (some ⟨b8, 0, none⟩)), (6, .iface 183 (.agg #[.string q12, .iface 30 (.int .i64 q13)])), (24, .bool true)]) (fun _ => [(b1, .cells #[.int .u64 0, .int .u64 0, .bool false, .int .i64 0, .bool false, .int .i64 0, .int .i64 0, .string (⟨#[]⟩ : ByteArray)] 29 (0, 0)), (b8, .cells #[.int .u64 r4.Dst, .int .u64 r4.Src, .bool r4.Tag.Has, .int .i64 r4.Tag.Pri, .bool r4.Tag.Dei, .int .i64 r4.Tag.Vid, .int .i64 r4.Type_, .string r4.Body] 29 (0, 0))]) (fun _ => []) (fun _ => by kernel_rfl) (fun _ => ?_)
        refine WP.yes rfl rfl ?_
        refine WP.seq ?_
        refine WP.region ?_
        refine WL.run 2 [] [2, 3, 5, 27, 28] (fun _ => [(2, .pointer (some ⟨b1, 0, none⟩)), (3, .int .i64 0), (5, .pointer (some ⟨b8, 0, none⟩)), (27, .agg #[.int .u64 0, .int .u64 0, .bool false, .int .i64 0, .bool false, .int .i64 0, .int .i64 0, .string (⟨#[]⟩ : ByteArray)]), (28, .iface 183 (.agg #[.string q12, .iface 30 (.int .i64 q13)]))]) (fun _ => [(b1, .cells #[.int .u64 0, .int .u64 0, .bool false, .int .i64 0, .bool false, .int .i64 0, .int .i64 0, .string (⟨#[]⟩ : ByteArray)] 29 (0, 0)), (b8, .cells #[.int .u64 r4.Dst, .int .u64 r4.Src, .bool r4.Tag.Has, .int .i64 r4.Tag.Pri, .bool r4.Tag.Dei, .int .i64 r4.Tag.Vid, .int .i64 r4.Type_, .string r4.Body] 29 (0, 0))]) (fun _ => []) (fun _ => by kernel_rfl) (fun _ => ?_)
        obtain ⟨r17, h18, hM⟩ := bind_some hM
        refine WL.callP [] [] (ether_number_calls q12 q13 _ h18) (fun _ h => h) (by kernel_rfl) (by kernel_rfl) rfl ?_
        refine WL.run 2 [0, 0, 0, 0, 0, 0, 0, 0] [2, 3, 5] (fun _ => [(2, .pointer (some ⟨b1, 0, none⟩)), (3, .int .i64 r17), (5, .pointer (some ⟨b8, 0, none⟩))]) (fun _ => [(b1, .cells #[.int .u64 0, .int .u64 0, .bool false, .int .i64 0, .bool false, .int .i64 0, .int .i64 0, .string (⟨#[]⟩ : ByteArray)] 29 (0, 0)), (b8, .cells #[.int .u64 r4.Dst, .int .u64 r4.Src, .bool r4.Tag.Has, .int .i64 r4.Tag.Pri, .bool r4.Tag.Dei, .int .i64 r4.Tag.Vid, .int .i64 r4.Type_, .string r4.Body] 29 (0, 0))]) (fun _ => [b1, b1, b1, b1, b1, b1, b1, b1]) (fun _ => by kernel_rfl) (fun _ => ?_)
        refine WP.done ?_
        obtain rfl := Option.some.inj hM
        exact WP.ret [0, 0, 0, 0, 0, 0, 0, 0] [b1, b1, b1, b1, b1, b1, b1, b1] (.tuple #[.agg #[.int .u64 0, .int .u64 0, .bool false, .int .i64 0, .bool false, .int .i64 0, .int .i64 0, .string (⟨#[]⟩ : ByteArray)], .int .i64 r17]) (by kernel_rfl) (fun w' hw => ⟨rfl, hw.pick [] rfl⟩)

end Go.Proofs.YtbodofjnfmjbpaaGreatDoor

namespace Go.Proofs.YtbodofjnfmjbpaaGreatDoor
open Go Eng
set_option linter.unusedVariables false
set_option linter.unusedSimpArgs false

/-! ### (*gangway/tunnel.opener).step: function 26 -/
def tunnel_opener_step.f (k : Nat) (a0 : (List api_Seg)) (a0_1 : Int) (a0_2 : Int) (a0_3 : ByteArray) (a0_4 : Int) (a0_5 : Int) (a0_6 : (List Int)) (a0_7 : Int) (a0_8 : Int) (a0_9 : Bool) (a0_10 : Int) (a0_11 : Bool) (a0_12 : Int) (a0_13 : Int) (a0_14 : ByteArray) (a1 : Int) : Option (Bool × Int × ByteArray × Int × Int × (List Int) × Int × Int × Bool × Int × Bool × Int × Int × ByteArray) :=
  bif (a1 == 0) then
    (vxlan_Parse.f k a0_3).bind fun (r2, r3, r4) =>
    some ((r4 == 0), r2, r3, a0_4, a0_5, a0_6, a0_7, a0_8, a0_9, a0_10, a0_11, a0_12, a0_13, a0_14)
  else
    bif (a1 == 1) then
      (vni_By.f k a0 a0_2).bind fun (r8, r9) =>
      some (r9, a0_2, a0_3, r8.Vid, r8.Vni, r8.Peers, a0_7, a0_8, a0_9, a0_10, a0_11, a0_12, a0_13, a0_14)
    else
      bif (a1 == 2) then
        (vni_Peer.f k a0 a0_2 a0_1).bind fun r14 =>
        some (r14, a0_2, a0_3, a0_4, a0_5, a0_6, a0_7, a0_8, a0_9, a0_10, a0_11, a0_12, a0_13, a0_14)
      else
        (ether_Parse.f k a0_3).bind fun (r16, r17) =>
        some (((r17 == 0) && (!r16.Tag.Has)), a0_2, a0_3, a0_4, a0_5, a0_6, r16.Dst, r16.Src, r16.Tag.Has, r16.Tag.Pri, r16.Tag.Dei, r16.Tag.Vid, r16.Type_, r16.Body)

set_option maxRecDepth 100000 in
theorem tunnel_opener_step_calls (k : Nat) (b_0 : Nat) (A00 : SkL (SkL Unit)) (A01 : SkL Unit) (a0 : (List api_Seg)) (a0_1 : Int) (a0_2 : Int) (a0_3 : ByteArray) (a0_4 : Int) (a0_5 : Int) (a0_6 : (List Int)) (a0_7 : Int) (a0_8 : Int) (a0_9 : Bool) (a0_10 : Int) (a0_11 : Bool) (a0_12 : Int) (a0_13 : Int) (a0_14 : ByteArray) (a1 : Int) (r : Bool × Int × ByteArray × Int × Int × (List Int) × Int × Int × Bool × Int × Bool × Int × Int × ByteArray) (h : tunnel_opener_step.f k a0 a0_1 a0_2 a0_3 a0_4 a0_5 a0_6 a0_7 a0_8 a0_9 a0_10 a0_11 a0_12 a0_13 a0_14 a1 = some r) : Does Tryz.prog 26 #[.pointer (some ⟨b_0, 0, none⟩), .int .i64 a1] [(b_0, .cells #[slcV A00 a0.length, .int .u32 a0_1, .int .i64 a0_2, .string a0_3, .int .i64 a0_4, .int .i64 a0_5, slcV A01 a0_6.length, .int .u64 a0_7, .int .u64 a0_8, .bool a0_9, .int .i64 a0_10, .bool a0_11, .int .i64 a0_12, .int .i64 a0_13, .string a0_14] 62 (0, 0))] ([Row 3 api_Seg.encS api_Seg.inK A00 a0, Row 1 (pl (encI .u32)) noK A01 a0_6] ++ Glob) (fun x : (SkL Unit) => .bool r.1) (fun x => [(b_0, .cells #[slcV A00 a0.length, .int .u32 a0_1, .int .i64 r.2.1, .string r.2.2.1, .int .i64 r.2.2.2.1, .int .i64 r.2.2.2.2.1, slcV x r.2.2.2.2.2.1.length, .int .u64 r.2.2.2.2.2.2.1, .int .u64 r.2.2.2.2.2.2.2.1, .bool r.2.2.2.2.2.2.2.2.1, .int .i64 r.2.2.2.2.2.2.2.2.2.1, .bool r.2.2.2.2.2.2.2.2.2.2.1, .int .i64 r.2.2.2.2.2.2.2.2.2.2.2.1, .int .i64 r.2.2.2.2.2.2.2.2.2.2.2.2.1, .string r.2.2.2.2.2.2.2.2.2.2.2.2.2] 62 (0, 0))]) (fun _ => []) (fun x => [Row 1 (pl (encI .u32)) noK x r.2.2.2.2.2.1] ++ ([Row 3 api_Seg.encS api_Seg.inK A00 a0, Row 1 (pl (encI .u32)) noK A01 a0_6] ++ Glob)) := by
  intro w Z hS
  refine calls_of (args := [.pointer (some ⟨b_0, 0, none⟩), .int .i64 a1]) (L := [(0, .pointer (some ⟨b_0, 0, none⟩)), (1, .int .i64 a1)]) (N := 88) (S := Sat w Z [(b_0, .cells #[slcV A00 a0.length, .int .u32 a0_1, .int .i64 a0_2, .string a0_3, .int .i64 a0_4, .int .i64 a0_5, slcV A01 a0_6.length, .int .u64 a0_7, .int .u64 a0_8, .bool a0_9, .int .i64 a0_10, .bool a0_11, .int .i64 a0_12, .int .i64 a0_13, .string a0_14] 62 (0, 0))] [] ([Row 3 api_Seg.encS api_Seg.inK A00 a0, Row 1 (pl (encI .u32)) noK A01 a0_6] ++ Glob)) Tryz.func26 rfl rfl (Nat.le_of_ble_eq_true rfl) rfl hS ?_
  have hM := h
  clear h hS
  unfold tunnel_opener_step.f at hM
  refine WP.seq ?_
  refine WP.run [] [0, 1, 4] (fun _ => [(0, .pointer (some ⟨b_0, 0, none⟩)), (1, .int .i64 a1), (4, .bool false)]) (fun _ => [(b_0, .cells #[slcV A00 a0.length, .int .u32 a0_1, .int .i64 a0_2, .string a0_3, .int .i64 a0_4, .int .i64 a0_5, slcV A01 a0_6.length, .int .u64 a0_7, .int .u64 a0_8, .bool a0_9, .int .i64 a0_10, .bool a0_11, .int .i64 a0_12, .int .i64 a0_13, .string a0_14] 62 (0, 0))]) (fun _ => []) (fun _ => by kernel_rfl) (fun _ => ?_)
  refine WP.seq ?_
  refine WP.seq ?_
  refine WP.run [] [0, 4, 12] (fun _ => [(0, .pointer (some ⟨b_0, 0, none⟩)), (4, .bool false), (12, .int .i64 a1)]) (fun _ => [(b_0, .cells #[slcV A00 a0.length, .int .u32 a0_1, .int .i64 a0_2, .string a0_3, .int .i64 a0_4, .int .i64 a0_5, slcV A01 a0_6.length, .int .u64 a0_7, .int .u64 a0_8, .bool a0_9, .int .i64 a0_10, .bool a0_11, .int .i64 a0_12, .int .i64 a0_13, .string a0_14] 62 (0, 0))]) (fun _ => []) (fun _ => by kernel_rfl) (fun _ => ?_)
  refine WP.block ?_
  refine WP.seq ?_
  refine WP.run [] [0, 4, 12, 13] (fun _ => [(0, .pointer (some ⟨b_0, 0, none⟩)), (4, .bool false), (12, .int .i64 a1), (13, .bool (a1 == 0))]) (fun _ => [(b_0, .cells #[slcV A00 a0.length, .int .u32 a0_1, .int .i64 a0_2, .string a0_3, .int .i64 a0_4, .int .i64 a0_5, slcV A01 a0_6.length, .int .u64 a0_7, .int .u64 a0_8, .bool a0_9, .int .i64 a0_10, .bool a0_11, .int .i64 a0_12, .int .i64 a0_13, .string a0_14] 62 (0, 0))]) (fun _ => []) (fun _ => by kernel_rfl) (fun _ => ?_)
  refine WP.cond (a1 == 0) rfl rfl (fun c1 => ?_) (fun c1 => ?_)
  · replace hM := cond_t hM c1
    refine WP.seq ?_
    refine WP.region ?_
    refine WL.run 4 [0] [0, 4, 19] (fun _ => [(0, .pointer (some ⟨b_0, 0, none⟩)), (4, .bool false), (19, .string a0_3)]) (fun _ => [(b_0, .cells #[slcV A00 a0.length, .int .u32 a0_1, .int .i64 a0_2, .string a0_3, .int .i64 a0_4, .int .i64 a0_5, slcV A01 a0_6.length, .int .u64 a0_7, .int .u64 a0_8, .bool a0_9, .int .i64 a0_10, .bool a0_11, .int .i64 a0_12, .int .i64 a0_13, .string a0_14] 62 (0, 0))]) (fun _ => [b_0]) (fun _ => by kernel_rfl) (fun _ => ?_)
    obtain ⟨⟨r2, r3, r4⟩, h5, hM⟩ := bind_some hM
    dsimp only at hM
    refine WL.callP [] [] (vxlan_Parse_calls k a0_3 _ h5) (fun _ h => List.mem_append_right _ h) (by kernel_rfl) (by kernel_rfl) rfl ?_
    refine WL.run 7 [] [0, 4, 5, 6, 7] (fun _ => [(0, .pointer (some ⟨b_0, 0, none⟩)), (4, .bool false), (5, .int .i64 r2), (6, .string r3), (7, .int .i64 r4)]) (fun _ => [(b_0, .cells #[slcV A00 a0.length, .int .u32 a0_1, .int .i64 a0_2, .string a0_3, .int .i64 a0_4, .int .i64 a0_5, slcV A01 a0_6.length, .int .u64 a0_7, .int .u64 a0_8, .bool a0_9, .int .i64 a0_10, .bool a0_11, .int .i64 a0_12, .int .i64 a0_13, .string a0_14] 62 (0, 0))]) (fun _ => []) (fun _ => by kernel_rfl) (fun _ => ?_)
    refine WP.done ?_
    refine WP.seq ?_
    refine WP.run [0, 0] [0, 4, 7] (fun _ => [(0, .pointer (some ⟨b_0, 0, none⟩)), (4, .bool false), (7, .int .i64 r4)]) (fun _ => [(b_0, .cells #[slcV A00 a0.length, .int .u32 a0_1, .int .i64 r2, .string r3, .int .i64 a0_4, .int .i64 a0_5, slcV A01 a0_6.length, .int .u64 a0_7, .int .u64 a0_8, .bool a0_9, .int .i64 a0_10, .bool a0_11, .int .i64 a0_12, .int .i64 a0_13, .string a0_14] 62 (0, 0))]) (fun _ => [b_0, b_0]) (fun _ => by kernel_rfl) (fun _ => ?_)
    refine WP.seq ?_
    refine WP.run [] [0, 4] (fun _ => [(0, .pointer (some ⟨b_0, 0, none⟩)), (4, .bool (r4 == 0))]) (fun _ => [(b_0, .cells #[slcV A00 a0.length, .int .u32 a0_1, .int .i64 r2, .string r3, .int .i64 a0_4, .int .i64 a0_5, slcV A01 a0_6.length, .int .u64 a0_7, .int .u64 a0_8, .bool a0_9, .int .i64 a0_10, .bool a0_11, .int .i64 a0_12, .int .i64 a0_13, .string a0_14] 62 (0, 0))]) (fun _ => []) (fun _ => by kernel_rfl) (fun _ => ?_)
    obtain rfl := Option.some.inj hM
    exact WP.ret [] [] (.bool (r4 == 0)) (by kernel_rfl) (fun w' hw => ⟨A01, rfl, (hw.pick [0] (by kernel_rfl)).less (sub_ret [1] [0, 1] (by kernel_rfl) (by kernel_rfl))⟩)
  · replace hM := cond_f hM c1
    refine WP.seq ?_
    refine WP.run [] [0, 4, 12, 34] (fun _ => [(0, .pointer (some ⟨b_0, 0, none⟩)), (4, .bool false), (12, .int .i64 a1), (34, .bool (a1 == 1))]) (fun _ => [(b_0, .cells #[slcV A00 a0.length, .int .u32 a0_1, .int .i64 a0_2, .string a0_3, .int .i64 a0_4, .int .i64 a0_5, slcV A01 a0_6.length, .int .u64 a0_7, .int .u64 a0_8, .bool a0_9, .int .i64 a0_10, .bool a0_11, .int .i64 a0_12, .int .i64 a0_13, .string a0_14] 62 (0, 0))]) (fun _ => []) (fun _ => by kernel_rfl) (fun _ => ?_)
    refine WP.cond (a1 == 1) rfl rfl (fun c6 => ?_) (fun c6 => ?_)
    · replace hM := cond_t hM c6
      refine WP.seq ?_
      obtain ⟨⟨r8, r9⟩, h10, hM⟩ := bind_some hM
      dsimp only at hM
      refine WP.sub [0, 4] (L' := [(0, .pointer (some ⟨b_0, 0, none⟩)), (4, .bool false)]) (by kernel_rfl) ?_
      refine WP.mixed (X := (SkL Unit)) 14 [.val (.pointer (some ⟨b_0, 0, none⟩)), .val (.pointer (some ⟨b_0, 0, none⟩)), .val (.pointer (some ⟨b_0, 0, none⟩)), .val (slcV A00 a0.length), .val (.pointer (some ⟨b_0, 0, none⟩)), .val (.pointer (some ⟨b_0, 0, none⟩)), .val (.pointer (some ⟨b_0, 2, none⟩)), .val (.int .i64 a0_2), .ex [] (fun tt => .tuple #[.agg #[.int .i64 r8.Vid, .int .i64 r8.Vni, slcV (tt 8) r8.Peers.length], .bool r9]) (fun tt => [Row 1 (pl (encI .u32)) noK (tt 8) r8.Peers]), .valX [8] (fun tt => .tuple #[.agg #[.int .i64 r8.Vid, .int .i64 r8.Vni, slcV (tt 8) r8.Peers.length], .bool r9]), .valX [8] (fun tt => .agg #[.int .i64 r8.Vid, .int .i64 r8.Vni, slcV (tt 8) r8.Peers.length]), .val (.bool r9), .alloc (.cells #[.int .i64 0, .int .i64 0, .slice none 0 0] 35 (0, 0)) (fun b => .pointer (some ⟨b, 0, none⟩)), .fill 12 [8] (fun tt => .cells #[.int .i64 r8.Vid, .int .i64 r8.Vni, slcV (tt 8) r8.Peers.length] 35 (0, 0))] [(b_0, .cells #[slcV A00 a0.length, .int .u32 a0_1, .int .i64 a0_2, .string a0_3, .int .i64 a0_4, .int .i64 a0_5, slcV A01 a0_6.length, .int .u64 a0_7, .int .u64 a0_8, .bool a0_9, .int .i64 a0_10, .bool a0_11, .int .i64 a0_12, .int .i64 a0_13, .string a0_14] 62 (0, 0))] [] (by kernel_rfl) (by kernel_rfl) (by kernel_rfl) (by kernel_rfl) (Heads.val (fun tt Ψ => OpV.run [] [] (by kernel_rfl) (fun _ => by kernel_rfl)) (Heads.val (fun tt Ψ => OpV.run [] [] (by kernel_rfl) (fun _ => by kernel_rfl)) (Heads.val (fun tt Ψ => OpV.run [] [] (by kernel_rfl) (fun _ => by kernel_rfl)) (Heads.val (fun tt Ψ => OpV.run [0] [b_0] (by kernel_rfl) (fun _ => by kernel_rfl)) (Heads.val (fun tt Ψ => OpV.run [] [] (by kernel_rfl) (fun _ => by kernel_rfl)) (Heads.val (fun tt Ψ => OpV.run [] [] (by kernel_rfl) (fun _ => by kernel_rfl)) (Heads.val (fun tt Ψ => OpV.run [] [] (by kernel_rfl) (fun _ => by kernel_rfl)) (Heads.val (fun tt Ψ => OpV.run [0] [b_0] (by kernel_rfl) (fun _ => by kernel_rfl)) (Heads.ex (fun x x' h => ⟨(by first | rfl | simp only [h 8 (List.mem_cons_self ..)]), (by first | rfl | simp only [h 8 (List.mem_cons_self ..)])⟩) (fun tt Ψ hΨ => OpX.callX (F0 := [Row 3 api_Seg.encS api_Seg.inK A00 a0]) (fun u => u) [] [] (app2 (mem2 (List.mem_append_right _ (fact_at 0 rfl)) no_facts) (fun _ h => (List.mem_append_right _ (List.mem_append_right _ h)))) (fun _ h => h) (vni_By_calls k A00 a0 a0_2 _ h10) (fun x => ⟨x, rfl⟩) (fun _ => by kernel_rfl) (fun _ => by kernel_rfl) (fun _ => by kernel_rfl)) (Heads.valX (fun x x' h => (by first | rfl | simp only [h 8 (List.mem_of_getElem? (i := 0) rfl)])) (fun tt Ψ hΨ => OpV.run [] [] (by kernel_rfl) (fun _ => by kernel_rfl)) (Heads.valX (fun x x' h => (by first | rfl | simp only [h 8 (List.mem_of_getElem? (i := 0) rfl)])) (fun tt Ψ hΨ => OpV.run [] [] (by kernel_rfl) (fun _ => by kernel_rfl)) (Heads.val (fun tt Ψ => OpV.run [] [] (by kernel_rfl) (fun _ => by kernel_rfl)) (Heads.alloc (fun _ => by kernel_rfl) (fun _ _ => by kernel_rfl) (Heads.fill (fun x x' h => (by first | rfl | simp only [h 8 (List.mem_of_getElem? (i := 0) rfl)])) 8 (fun b => .pointer (some ⟨b, 0, none⟩)) (.cells #[.int .i64 0, .int .i64 0, .slice none 0 0] 35 (0, 0)) rfl rfl (fun tt Ψ => OpF.run [1, 1, 1] (fun b => [b, b, b]) (fun _ => by kernel_rfl) (fun _ _ _ => by kernel_rfl) (fun _ _ _ => by kernel_rfl)) Heads.nil)))))))))))))) (fun s7 tt => [(37, .pointer (some ⟨b_0, 0, none⟩)), (38, .pointer (some ⟨b_0, 0, none⟩)), (39, .pointer (some ⟨b_0, 0, none⟩)), (40, slcV A00 a0.length), (41, .pointer (some ⟨b_0, 0, none⟩)), (42, .pointer (some ⟨b_0, 0, none⟩)), (43, .pointer (some ⟨b_0, 2, none⟩)), (44, .int .i64 a0_2), (45, .tuple #[.agg #[.int .i64 r8.Vid, .int .i64 r8.Vni, slcV (tt 8) r8.Peers.length], .bool r9]), (36, .tuple #[.agg #[.int .i64 r8.Vid, .int .i64 r8.Vni, slcV (tt 8) r8.Peers.length], .bool r9]), (46, .agg #[.int .i64 r8.Vid, .int .i64 r8.Vni, slcV (tt 8) r8.Peers.length]), (47, .bool r9), (8, .pointer (some ⟨(s7 12), 0, none⟩)), (0, .pointer (some ⟨b_0, 0, none⟩)), (4, .bool false)]) (fun s7 tt => [(b_0, .cells #[slcV A00 a0.length, .int .u32 a0_1, .int .i64 a0_2, .string a0_3, .int .i64 a0_4, .int .i64 a0_5, slcV A01 a0_6.length, .int .u64 a0_7, .int .u64 a0_8, .bool a0_9, .int .i64 a0_10, .bool a0_11, .int .i64 a0_12, .int .i64 a0_13, .string a0_14] 62 (0, 0)), ((s7 12), .cells #[.int .i64 r8.Vid, .int .i64 r8.Vni, slcV (tt 8) r8.Peers.length] 35 (0, 0))]) (fun tt => ([Row 1 (pl (encI .u32)) noK (tt 8) r8.Peers] ++ [Row 3 api_Seg.encS api_Seg.inK A00 a0, Row 1 (pl (encI .u32)) noK A01 a0_6]) ++ Glob) (fun _ _ => by kernel_rfl) (fun _ _ => by kernel_rfl) (fun _ => by kernel_rfl) (fun s7 tt => ?_)
      generalize s7 12 = b12
      generalize (tt 8) = A11
      refine WL.run 1 [] [0, 4, 8, 9] (fun _ => [(0, .pointer (some ⟨b_0, 0, none⟩)), (4, .bool false), (8, .pointer (some ⟨b12, 0, none⟩)), (9, .bool r9)]) (fun _ => [(b_0, .cells #[slcV A00 a0.length, .int .u32 a0_1, .int .i64 a0_2, .string a0_3, .int .i64 a0_4, .int .i64 a0_5, slcV A01 a0_6.length, .int .u64 a0_7, .int .u64 a0_8, .bool a0_9, .int .i64 a0_10, .bool a0_11, .int .i64 a0_12, .int .i64 a0_13, .string a0_14] 62 (0, 0)), (b12, .cells #[.int .i64 r8.Vid, .int .i64 r8.Vni, slcV A11 r8.Peers.length] 35 (0, 0))]) (fun _ => []) (fun _ => by kernel_rfl) (fun _ => ?_)
      refine WP.done ?_
      refine WP.seq ?_
      refine WP.run [1, 1, 1, 0, 0, 0] [0, 4, 9] (fun _ => [(0, .pointer (some ⟨b_0, 0, none⟩)), (4, .bool false), (9, .bool r9)]) (fun _ => [(b_0, .cells #[slcV A00 a0.length, .int .u32 a0_1, .int .i64 a0_2, .string a0_3, .int .i64 r8.Vid, .int .i64 r8.Vni, slcV A11 r8.Peers.length, .int .u64 a0_7, .int .u64 a0_8, .bool a0_9, .int .i64 a0_10, .bool a0_11, .int .i64 a0_12, .int .i64 a0_13, .string a0_14] 62 (0, 0)), (b12, .cells #[.int .i64 r8.Vid, .int .i64 r8.Vni, slcV A11 r8.Peers.length] 35 (0, 0))]) (fun _ => [b_0, b_0, b_0, b12, b12, b12]) (fun _ => by kernel_rfl) (fun _ => ?_)
      refine WP.keep [true, false] (by kernel_rfl : _ = [(b_0, .cells #[slcV A00 a0.length, .int .u32 a0_1, .int .i64 a0_2, .string a0_3, .int .i64 r8.Vid, .int .i64 r8.Vni, slcV A11 r8.Peers.length, .int .u64 a0_7, .int .u64 a0_8, .bool a0_9, .int .i64 a0_10, .bool a0_11, .int .i64 a0_12, .int .i64 a0_13, .string a0_14] 62 (0, 0))]) ?_
      refine WP.seq ?_
      refine WP.run [] [0, 4] (fun _ => [(0, .pointer (some ⟨b_0, 0, none⟩)), (4, .bool r9)]) (fun _ => [(b_0, .cells #[slcV A00 a0.length, .int .u32 a0_1, .int .i64 a0_2, .string a0_3, .int .i64 r8.Vid, .int .i64 r8.Vni, slcV A11 r8.Peers.length, .int .u64 a0_7, .int .u64 a0_8, .bool a0_9, .int .i64 a0_10, .bool a0_11, .int .i64 a0_12, .int .i64 a0_13, .string a0_14] 62 (0, 0))]) (fun _ => []) (fun _ => by kernel_rfl) (fun _ => ?_)
      obtain rfl := Option.some.inj hM
      exact WP.ret [] [] (.bool r9) (by kernel_rfl) (fun w' hw => ⟨A11, rfl, (hw.pick [0] (by kernel_rfl)).less (sub_ret [0] [1, 2] (by kernel_rfl) (by kernel_rfl))⟩)
    · replace hM := cond_f hM c6
      refine WP.seq ?_
      refine WP.run [] [0, 4, 53] (fun _ => [(0, .pointer (some ⟨b_0, 0, none⟩)), (4, .bool false), (53, .bool (a1 == 2))]) (fun _ => [(b_0, .cells #[slcV A00 a0.length, .int .u32 a0_1, .int .i64 a0_2, .string a0_3, .int .i64 a0_4, .int .i64 a0_5, slcV A01 a0_6.length, .int .u64 a0_7, .int .u64 a0_8, .bool a0_9, .int .i64 a0_10, .bool a0_11, .int .i64 a0_12, .int .i64 a0_13, .string a0_14] 62 (0, 0))]) (fun _ => []) (fun _ => by kernel_rfl) (fun _ => ?_)
      refine WP.cond (a1 == 2) rfl rfl (fun c13 => ?_) (fun c13 => ?_)
      · replace hM := cond_t hM c13
        refine WP.seq ?_
        refine WP.quiet (by kernel_rfl) (by kernel_rfl) ?_
        refine QL.run 12 [0, 0, 0] [0, 4, 58, 62, 66] [b_0, b_0, b_0] [(0, .pointer (some ⟨b_0, 0, none⟩)), (4, .bool false), (58, slcV A00 a0.length), (62, .int .i64 a0_2), (66, .int .u32 a0_1)] (by kernel_rfl) ?_
        obtain ⟨r14, h15, hM⟩ := bind_some hM
        refine QL.callP [] [] (vni_Peer_calls k A00 a0 a0_2 a0_1 _ h15) (sub_pick [0] (by kernel_rfl)) (by kernel_rfl) (by kernel_rfl) rfl ?_
        refine QL.run 1 [] [0, 4] [] [(0, .pointer (some ⟨b_0, 0, none⟩)), (4, .bool r14)] (by kernel_rfl) ?_
        refine QL.done ?_
        obtain rfl := Option.some.inj hM
        exact WP.ret [] [] (.bool r14) (by kernel_rfl) (fun w' hw => ⟨A01, rfl, (hw.pick [0] (by kernel_rfl)).less (sub_ret [1] [0, 1] (by kernel_rfl) (by kernel_rfl))⟩)
      · replace hM := cond_f hM c13
        refine WP.skip ?_
        refine WP.leave ?_
        refine WP.seq ?_
        refine WP.region ?_
        refine WL.run 4 [0] [0, 4, 72] (fun _ => [(0, .pointer (some ⟨b_0, 0, none⟩)), (4, .bool false), (72, .string a0_3)]) (fun _ => [(b_0, .cells #[slcV A00 a0.length, .int .u32 a0_1, .int .i64 a0_2, .string a0_3, .int .i64 a0_4, .int .i64 a0_5, slcV A01 a0_6.length, .int .u64 a0_7, .int .u64 a0_8, .bool a0_9, .int .i64 a0_10, .bool a0_11, .int .i64 a0_12, .int .i64 a0_13, .string a0_14] 62 (0, 0))]) (fun _ => [b_0]) (fun _ => by kernel_rfl) (fun _ => ?_)
        obtain ⟨⟨r16, r17⟩, h18, hM⟩ := bind_some hM
        dsimp only at hM
        refine WL.callP [] [] (ether_Parse_calls k a0_3 _ h18) (fun _ h => List.mem_append_right _ h) (by kernel_rfl) (by kernel_rfl) rfl ?_
        refine WL.run 6 [1, 1, 1, 1, 1, 1, 1, 1] [0, 4, 10, 11] (fun b19 => [(0, .pointer (some ⟨b_0, 0, none⟩)), (4, .bool false), (10, .pointer (some ⟨b19, 0, none⟩)), (11, .int .i64 r17)]) (fun b19 => [(b_0, .cells #[slcV A00 a0.length, .int .u32 a0_1, .int .i64 a0_2, .string a0_3, .int .i64 a0_4, .int .i64 a0_5, slcV A01 a0_6.length, .int .u64 a0_7, .int .u64 a0_8, .bool a0_9, .int .i64 a0_10, .bool a0_11, .int .i64 a0_12, .int .i64 a0_13, .string a0_14] 62 (0, 0)), (b19, .cells #[.int .u64 r16.Dst, .int .u64 r16.Src, .bool r16.Tag.Has, .int .i64 r16.Tag.Pri, .bool r16.Tag.Dei, .int .i64 r16.Tag.Vid, .int .i64 r16.Type_, .string r16.Body] 29 (0, 0))]) (fun b19 => [b19, b19, b19, b19, b19, b19, b19, b19]) (fun b19 => by kernel_rfl) (fun b19 => ?_)
        refine WP.done ?_
        refine WP.seq ?_
        refine WP.run [1, 1, 1, 1, 1, 1, 1, 1, 0, 0, 0, 0, 0, 0, 0, 0] [4, 10, 11] (fun _ => [(4, .bool false), (10, .pointer (some ⟨b19, 0, none⟩)), (11, .int .i64 r17)]) (fun _ => [(b_0, .cells #[slcV A00 a0.length, .int .u32 a0_1, .int .i64 a0_2, .string a0_3, .int .i64 a0_4, .int .i64 a0_5, slcV A01 a0_6.length, .int .u64 r16.Dst, .int .u64 r16.Src, .bool r16.Tag.Has, .int .i64 r16.Tag.Pri, .bool r16.Tag.Dei, .int .i64 r16.Tag.Vid, .int .i64 r16.Type_, .string r16.Body] 62 (0, 0)), (b19, .cells #[.int .u64 r16.Dst, .int .u64 r16.Src, .bool r16.Tag.Has, .int .i64 r16.Tag.Pri, .bool r16.Tag.Dei, .int .i64 r16.Tag.Vid, .int .i64 r16.Type_, .string r16.Body] 29 (0, 0))]) (fun _ => [b_0, b_0, b_0, b_0, b_0, b_0, b_0, b_0, b19, b19, b19, b19, b19, b19, b19, b19]) (fun _ => by kernel_rfl) (fun _ => ?_)
        refine WP.seq ?_
        refine WP.region ?_
        refine WL.run 3 [] [4, 10, 82] (fun _ => [(4, .bool false), (10, .pointer (some ⟨b19, 0, none⟩)), (82, .bool (r17 == 0))]) (fun _ => [(b_0, .cells #[slcV A00 a0.length, .int .u32 a0_1, .int .i64 a0_2, .string a0_3, .int .i64 a0_4, .int .i64 a0_5, slcV A01 a0_6.length, .int .u64 r16.Dst, .int .u64 r16.Src, .bool r16.Tag.Has, .int .i64 r16.Tag.Pri, .bool r16.Tag.Dei, .int .i64 r16.Tag.Vid, .int .i64 r16.Type_, .string r16.Body] 62 (0, 0)), (b19, .cells #[.int .u64 r16.Dst, .int .u64 r16.Src, .bool r16.Tag.Has, .int .i64 r16.Tag.Pri, .bool r16.Tag.Dei, .int .i64 r16.Tag.Vid, .int .i64 r16.Type_, .string r16.Body] 29 (0, 0))]) (fun _ => []) (fun _ => by kernel_rfl) (fun _ => ?_)
        refine WL.sub [4, 10, 82] (L' := [(4, .bool false), (10, .pointer (some ⟨b19, 0, none⟩)), (82, .bool (r17 == 0))]) (by kernel_rfl) ?_
        refine WL.both (fun b' => [(4, .bool false), (10, .pointer (some ⟨b19, 0, none⟩)), (82, .bool b')]) (r17 == 0) 5 [1] [] [4, 87] (fun b' => [(4, .bool false), (87, .bool (b' && (!r16.Tag.Has)))]) [b19] [] (fun _ => by kernel_rfl) (fun _ => by kernel_rfl) ?_
        refine WL.run 1 [] [4] (fun _ => [(4, .bool ((r17 == 0) && (!r16.Tag.Has)))]) (fun _ => [(b_0, .cells #[slcV A00 a0.length, .int .u32 a0_1, .int .i64 a0_2, .string a0_3, .int .i64 a0_4, .int .i64 a0_5, slcV A01 a0_6.length, .int .u64 r16.Dst, .int .u64 r16.Src, .bool r16.Tag.Has, .int .i64 r16.Tag.Pri, .bool r16.Tag.Dei, .int .i64 r16.Tag.Vid, .int .i64 r16.Type_, .string r16.Body] 62 (0, 0)), (b19, .cells #[.int .u64 r16.Dst, .int .u64 r16.Src, .bool r16.Tag.Has, .int .i64 r16.Tag.Pri, .bool r16.Tag.Dei, .int .i64 r16.Tag.Vid, .int .i64 r16.Type_, .string r16.Body] 29 (0, 0))]) (fun _ => []) (fun _ => by kernel_rfl) (fun _ => ?_)
        refine WP.done ?_
        refine WP.keep [true, false] (by kernel_rfl : _ = [(b_0, .cells #[slcV A00 a0.length, .int .u32 a0_1, .int .i64 a0_2, .string a0_3, .int .i64 a0_4, .int .i64 a0_5, slcV A01 a0_6.length, .int .u64 r16.Dst, .int .u64 r16.Src, .bool r16.Tag.Has, .int .i64 r16.Tag.Pri, .bool r16.Tag.Dei, .int .i64 r16.Tag.Vid, .int .i64 r16.Type_, .string r16.Body] 62 (0, 0))]) ?_
        obtain rfl := Option.some.inj hM
        exact WP.ret [] [] (.bool ((r17 == 0) && (!r16.Tag.Has))) (by kernel_rfl) (fun w' hw => ⟨A01, rfl, (hw.pick [0] (by kernel_rfl)).less (sub_ret [1] [0, 1] (by kernel_rfl) (by kernel_rfl))⟩)

end Go.Proofs.YtbodofjnfmjbpaaGreatDoor

namespace Go.Proofs.YtbodofjnfmjbpaaGreatDoor
open Go Eng
set_option linter.unusedVariables false
set_option linter.unusedSimpArgs false

/-! ### gangway/tunnel.Unwrap: function 12 -/
def tunnel_Unwrap.k1 (x75 : Int) (x76 : Int) (x77 : ByteArray) (x78 : Int) (x79 : Int) (x80 : (List Int)) (x82 : Int) (x83 : Int) (x84 : Bool) (x85 : Int) (x86 : Bool) (x87 : Int) (x88 : Int) (x89 : ByteArray) : Option (api_Seg × api_Frame × Int) :=
  some ((api_Seg.mk x78 x79 x80), (api_Frame.mk x82 x83 (api_Tag.mk x84 x85 x86 x87) x88 x89), 0)

def tunnel_Unwrap.f (k : Nat) (a0 : (List api_Seg)) (a1 : Int) (a2 : api_Udp) : Option (api_Seg × api_Frame × Int) :=
  (tunnel_opener_step.f k a0 a1 0 a2.Body 0 0 ([] : List Int) 0 0 false 0 false 0 0 (⟨#[]⟩ : ByteArray) 0).bind fun (r7, r8, r9, r10, r11, r12, r13, r14, r15, r16, r17, r18, r19, r20) =>
  bif !r7 then
    some ((api_Seg.mk 0 0 ([] : List Int)), (api_Frame.mk 0 0 (api_Tag.mk false 0 false 0) 0 (⟨#[]⟩ : ByteArray)), 1)
  else
    (tunnel_opener_step.f k a0 a1 r8 r9 r10 r11 r12 r13 r14 r15 r16 r17 r18 r19 r20 1).bind fun (r24, r25, r26, r27, r28, r29, r30, r31, r32, r33, r34, r35, r36, r37) =>
    bif !r24 then
      some ((api_Seg.mk 0 0 ([] : List Int)), (api_Frame.mk 0 0 (api_Tag.mk false 0 false 0) 0 (⟨#[]⟩ : ByteArray)), 2)
    else
      (tunnel_opener_step.f k a0 a1 r25 r26 r27 r28 r29 r30 r31 r32 r33 r34 r35 r36 r37 2).bind fun (r41, r42, r43, r44, r45, r46, r47, r48, r49, r50, r51, r52, r53, r54) =>
      bif !r41 then
        some ((api_Seg.mk 0 0 ([] : List Int)), (api_Frame.mk 0 0 (api_Tag.mk false 0 false 0) 0 (⟨#[]⟩ : ByteArray)), 3)
      else
        (tunnel_opener_step.f k a0 a1 r42 r43 r44 r45 r46 r47 r48 r49 r50 r51 r52 r53 r54 3).bind fun (r58, r59, r60, r61, r62, r63, r64, r65, r66, r67, r68, r69, r70, r71) =>
        bif !r58 then
          some ((api_Seg.mk 0 0 ([] : List Int)), (api_Frame.mk 0 0 (api_Tag.mk false 0 false 0) 0 (⟨#[]⟩ : ByteArray)), 4)
        else
          tunnel_Unwrap.k1 0 r59 r60 r61 r62 r63 r64 r65 r66 r67 r68 r69 r70 r71

set_option maxRecDepth 100000 in
theorem tunnel_Unwrap_calls (k : Nat) (A00 : SkL (SkL Unit)) (a0 : (List api_Seg)) (a1 : Int) (a2 : api_Udp) (r : api_Seg × api_Frame × Int) (h : tunnel_Unwrap.f k a0 a1 a2 = some r) : Does Tryz.prog 12 #[slcV A00 a0.length, .int .u32 a1, .agg #[.int .i64 a2.Src, .int .i64 a2.Dst, .bool a2.NoSum, .string a2.Body]] [] ([Row 3 api_Seg.encS api_Seg.inK A00 a0] ++ Glob) (fun x : (SkL Unit) => .tuple #[.agg #[.int .i64 r.1.Vid, .int .i64 r.1.Vni, slcV x r.1.Peers.length], .agg #[.int .u64 r.2.1.Dst, .int .u64 r.2.1.Src, .bool r.2.1.Tag.Has, .int .i64 r.2.1.Tag.Pri, .bool r.2.1.Tag.Dei, .int .i64 r.2.1.Tag.Vid, .int .i64 r.2.1.Type_, .string r.2.1.Body], .int .i64 r.2.2]) (fun x => []) (fun _ => []) (fun x => [Row 1 (pl (encI .u32)) noK x r.1.Peers] ++ ([Row 3 api_Seg.encS api_Seg.inK A00 a0] ++ Glob)) := by
  intro w Z hS
  refine calls_of (args := [slcV A00 a0.length, .int .u32 a1, .agg #[.int .i64 a2.Src, .int .i64 a2.Dst, .bool a2.NoSum, .string a2.Body]]) (L := [(0, slcV A00 a0.length), (1, .int .u32 a1), (2, .agg #[.int .i64 a2.Src, .int .i64 a2.Dst, .bool a2.NoSum, .string a2.Body])]) (N := 41) (S := Sat w Z [] [] ([Row 3 api_Seg.encS api_Seg.inK A00 a0] ++ Glob)) Tryz.func12 rfl rfl (Nat.le_of_ble_eq_true rfl) rfl hS ?_
  have hM := h
  clear h hS
  unfold tunnel_Unwrap.f at hM
  refine WP.seq ?_
  refine WP.run [] [0, 1, 5, 6, 7, 8] (fun b1 => [(0, slcV A00 a0.length), (1, .int .u32 a1), (5, .pointer (some ⟨b1, 0, none⟩)), (6, .pointer (some ⟨(b1 + 1), 0, none⟩)), (7, .pointer (some ⟨(b1 + 2), 0, none⟩)), (8, .int .i64 0)]) (fun b1 => [(b1, .cells #[.int .i64 a2.Src, .int .i64 a2.Dst, .bool a2.NoSum, .string a2.Body] 40 (0, 0)), ((b1 + 1), .cells #[.int .i64 0, .int .i64 0, .slice none 0 0] 35 (0, 0)), ((b1 + 2), .cells #[.int .u64 0, .int .u64 0, .bool false, .int .i64 0, .bool false, .int .i64 0, .int .i64 0, .string (⟨#[]⟩ : ByteArray)] 29 (0, 0))]) (fun b1 => []) (fun b1 => by kernel_rfl) (fun b1 => ?_)
  refine WP.seq ?_
  refine WP.run [0] [6, 7, 8, 9] (fun b2 => [(6, .pointer (some ⟨(b1 + 1), 0, none⟩)), (7, .pointer (some ⟨(b1 + 2), 0, none⟩)), (8, .int .i64 0), (9, .pointer (some ⟨b2, 0, none⟩))]) (fun b2 => [(b1, .cells #[.int .i64 a2.Src, .int .i64 a2.Dst, .bool a2.NoSum, .string a2.Body] 40 (0, 0)), ((b1 + 1), .cells #[.int .i64 0, .int .i64 0, .slice none 0 0] 35 (0, 0)), ((b1 + 2), .cells #[.int .u64 0, .int .u64 0, .bool false, .int .i64 0, .bool false, .int .i64 0, .int .i64 0, .string (⟨#[]⟩ : ByteArray)] 29 (0, 0)), (b2, .cells #[slcV A00 a0.length, .int .u32 a1, .int .i64 0, .string a2.Body, .int .i64 0, .int .i64 0, .slice none 0 0, .int .u64 0, .int .u64 0, .bool false, .int .i64 0, .bool false, .int .i64 0, .int .i64 0, .string (⟨#[]⟩ : ByteArray)] 62 (0, 0))]) (fun b2 => [b1]) (fun b2 => by kernel_rfl) (fun b2 => ?_)
  refine WP.keep [false, true, true, true] (by kernel_rfl : _ = [((b1 + 1), .cells #[.int .i64 0, .int .i64 0, .slice none 0 0] 35 (0, 0)), ((b1 + 2), .cells #[.int .u64 0, .int .u64 0, .bool false, .int .i64 0, .bool false, .int .i64 0, .int .i64 0, .string (⟨#[]⟩ : ByteArray)] 29 (0, 0)), (b2, .cells #[slcV A00 a0.length, .int .u32 a1, .int .i64 0, .string a2.Body, .int .i64 0, .int .i64 0, .slice none 0 0, .int .u64 0, .int .u64 0, .bool false, .int .i64 0, .bool false, .int .i64 0, .int .i64 0, .string (⟨#[]⟩ : ByteArray)] 62 (0, 0))]) ?_
  refine WP.seq ?_
  refine WP.run [3, 3, 3, 3] [6, 7, 8, 9, 10] (fun b3 => [(6, .pointer (some ⟨(b1 + 1), 0, none⟩)), (7, .pointer (some ⟨(b1 + 2), 0, none⟩)), (8, .int .i64 0), (9, .pointer (some ⟨b2, 0, none⟩)), (10, .pointer (some ⟨b3, 0, none⟩))]) (fun b3 => [((b1 + 1), .cells #[.int .i64 0, .int .i64 0, .slice none 0 0] 35 (0, 0)), ((b1 + 2), .cells #[.int .u64 0, .int .u64 0, .bool false, .int .i64 0, .bool false, .int .i64 0, .int .i64 0, .string (⟨#[]⟩ : ByteArray)] 29 (0, 0)), (b2, .cells #[slcV A00 a0.length, .int .u32 a1, .int .i64 0, .string a2.Body, .int .i64 0, .int .i64 0, .slice none 0 0, .int .u64 0, .int .u64 0, .bool false, .int .i64 0, .bool false, .int .i64 0, .int .i64 0, .string (⟨#[]⟩ : ByteArray)] 62 (0, 0)), (b3, .cells #[.int .i64 1, .int .i64 2, .int .i64 3, .int .i64 4] 63 (0, 0))]) (fun b3 => [b3, b3, b3, b3]) (fun b3 => by kernel_rfl) (fun b3 => ?_)
  refine WP.seq ?_
  refine WP.seq ?_
  refine WP.run [3, 3, 3, 3] [6, 7, 8, 9, 20, 21] (fun _ => [(6, .pointer (some ⟨(b1 + 1), 0, none⟩)), (7, .pointer (some ⟨(b1 + 2), 0, none⟩)), (8, .int .i64 0), (9, .pointer (some ⟨b2, 0, none⟩)), (20, .agg #[.int .i64 1, .int .i64 2, .int .i64 3, .int .i64 4]), (21, .int .i64 0)]) (fun _ => [((b1 + 1), .cells #[.int .i64 0, .int .i64 0, .slice none 0 0] 35 (0, 0)), ((b1 + 2), .cells #[.int .u64 0, .int .u64 0, .bool false, .int .i64 0, .bool false, .int .i64 0, .int .i64 0, .string (⟨#[]⟩ : ByteArray)] 29 (0, 0)), (b2, .cells #[slcV A00 a0.length, .int .u32 a1, .int .i64 0, .string a2.Body, .int .i64 0, .int .i64 0, .slice none 0 0, .int .u64 0, .int .u64 0, .bool false, .int .i64 0, .bool false, .int .i64 0, .int .i64 0, .string (⟨#[]⟩ : ByteArray)] 62 (0, 0)), (b3, .cells #[.int .i64 1, .int .i64 2, .int .i64 3, .int .i64 4] 63 (0, 0))]) (fun _ => [b3, b3, b3, b3]) (fun _ => by kernel_rfl) (fun _ => ?_)
  refine WP.keep [true, true, true, false] (by kernel_rfl : _ = [((b1 + 1), .cells #[.int .i64 0, .int .i64 0, .slice none 0 0] 35 (0, 0)), ((b1 + 2), .cells #[.int .u64 0, .int .u64 0, .bool false, .int .i64 0, .bool false, .int .i64 0, .int .i64 0, .string (⟨#[]⟩ : ByteArray)] 29 (0, 0)), (b2, .cells #[slcV A00 a0.length, .int .u32 a1, .int .i64 0, .string a2.Body, .int .i64 0, .int .i64 0, .slice none 0 0, .int .u64 0, .int .u64 0, .bool false, .int .i64 0, .bool false, .int .i64 0, .int .i64 0, .string (⟨#[]⟩ : ByteArray)] 62 (0, 0))]) ?_
  refine WP.blockJoin (σ := Int × Int × ByteArray × Int × Int × (List Int) × SkL Unit × Int × Int × Bool × Int × Bool × Int × Int × ByteArray) (fun st => tunnel_Unwrap.k1 st.1 st.2.1 st.2.2.1 st.2.2.2.1 st.2.2.2.2.1 st.2.2.2.2.2.1 st.2.2.2.2.2.2.2.1 st.2.2.2.2.2.2.2.2.1 st.2.2.2.2.2.2.2.2.2.1 st.2.2.2.2.2.2.2.2.2.2.1 st.2.2.2.2.2.2.2.2.2.2.2.1 st.2.2.2.2.2.2.2.2.2.2.2.2.1 st.2.2.2.2.2.2.2.2.2.2.2.2.2.1 st.2.2.2.2.2.2.2.2.2.2.2.2.2.2 = some r) (fun st => [(6, .pointer (some ⟨(b1 + 1), 0, none⟩)), (7, .pointer (some ⟨(b1 + 2), 0, none⟩)), (8, .int .i64 st.1), (9, .pointer (some ⟨b2, 0, none⟩))]) (fun st => Sat w Z [((b1 + 1), .cells #[.int .i64 0, .int .i64 0, .slice none 0 0] 35 (0, 0)), ((b1 + 2), .cells #[.int .u64 0, .int .u64 0, .bool false, .int .i64 0, .bool false, .int .i64 0, .int .i64 0, .string (⟨#[]⟩ : ByteArray)] 29 (0, 0)), (b2, .cells #[slcV A00 a0.length, .int .u32 a1, .int .i64 st.2.1, .string st.2.2.1, .int .i64 st.2.2.2.1, .int .i64 st.2.2.2.2.1, slcV st.2.2.2.2.2.2.1 st.2.2.2.2.2.1.length, .int .u64 st.2.2.2.2.2.2.2.1, .int .u64 st.2.2.2.2.2.2.2.2.1, .bool st.2.2.2.2.2.2.2.2.2.1, .int .i64 st.2.2.2.2.2.2.2.2.2.2.1, .bool st.2.2.2.2.2.2.2.2.2.2.2.1, .int .i64 st.2.2.2.2.2.2.2.2.2.2.2.2.1, .int .i64 st.2.2.2.2.2.2.2.2.2.2.2.2.2.1, .string st.2.2.2.2.2.2.2.2.2.2.2.2.2.2] 62 (0, 0))] [] ([Row 1 (pl (encI .u32)) noK st.2.2.2.2.2.2.1 st.2.2.2.2.2.1, Row 1 (pl (encI .u32)) noK (SkL.nil (fun _ => ())) ([] : List Int), Row 3 api_Seg.encS api_Seg.inK A00 a0] ++ Glob)) (fun st hM => ?_) (fun K1 => ?_)
  ·
    obtain ⟨x75, x76, x77, x78, x79, x80, A81, x82, x83, x84, x85, x86, x87, x88, x89⟩ := st
    replace hM : tunnel_Unwrap.k1 x75 x76 x77 x78 x79 x80 x82 x83 x84 x85 x86 x87 x88 x89 = some r := hM
    unfold tunnel_Unwrap.k1 at hM
    show WP _ _ _ _ _ [(6, .pointer (some ⟨(b1 + 1), 0, none⟩)), (7, .pointer (some ⟨(b1 + 2), 0, none⟩)), (8, .int .i64 x75), (9, .pointer (some ⟨b2, 0, none⟩))] (Sat w Z [((b1 + 1), .cells #[.int .i64 0, .int .i64 0, .slice none 0 0] 35 (0, 0)), ((b1 + 2), .cells #[.int .u64 0, .int .u64 0, .bool false, .int .i64 0, .bool false, .int .i64 0, .int .i64 0, .string (⟨#[]⟩ : ByteArray)] 29 (0, 0)), (b2, .cells #[slcV A00 a0.length, .int .u32 a1, .int .i64 x76, .string x77, .int .i64 x78, .int .i64 x79, slcV A81 x80.length, .int .u64 x82, .int .u64 x83, .bool x84, .int .i64 x85, .bool x86, .int .i64 x87, .int .i64 x88, .string x89] 62 (0, 0))] [] ([Row 1 (pl (encI .u32)) noK A81 x80, Row 1 (pl (encI .u32)) noK (SkL.nil (fun _ => ())) ([] : List Int), Row 3 api_Seg.encS api_Seg.inK A00 a0] ++ Glob))
    refine WP.seq ?_
    refine WP.sub [6, 7, 8, 9] (L' := [(6, .pointer (some ⟨(b1 + 1), 0, none⟩)), (7, .pointer (some ⟨(b1 + 2), 0, none⟩)), (8, .int .i64 x75), (9, .pointer (some ⟨b2, 0, none⟩))]) (by kernel_rfl) ?_
    refine WP.pick [1, 2, 0] (by kernel_rfl) (by kernel_rfl : _ = [((b1 + 2), .cells #[.int .u64 0, .int .u64 0, .bool false, .int .i64 0, .bool false, .int .i64 0, .int .i64 0, .string (⟨#[]⟩ : ByteArray)] 29 (0, 0)), (b2, .cells #[slcV A00 a0.length, .int .u32 a1, .int .i64 x76, .string x77, .int .i64 x78, .int .i64 x79, slcV A81 x80.length, .int .u64 x82, .int .u64 x83, .bool x84, .int .i64 x85, .bool x86, .int .i64 x87, .int .i64 x88, .string x89] 62 (0, 0)), ((b1 + 1), .cells #[.int .i64 0, .int .i64 0, .slice none 0 0] 35 (0, 0))]) ?_
    refine WP.mixed (X := Unit) 9 [.val (.pointer (some ⟨b2, 0, none⟩)), .val (.pointer (some ⟨b2, 0, none⟩)), .val (.pointer (some ⟨b2, 4, none⟩)), .val (.agg #[.int .i64 x78, .int .i64 x79, slcV A81 x80.length]), .val (.pointer (some ⟨b2, 0, none⟩)), .val (.pointer (some ⟨b2, 0, none⟩)), .val (.pointer (some ⟨b2, 7, none⟩)), .val (.agg #[.int .u64 x82, .int .u64 x83, .bool x84, .int .i64 x85, .bool x86, .int .i64 x87, .int .i64 x88, .string x89]), .put 9 [] (fun tt => .cells #[.int .i64 x78, .int .i64 x79, slcV A81 x80.length] 35 (0, 0))] [((b1 + 2), .cells #[.int .u64 0, .int .u64 0, .bool false, .int .i64 0, .bool false, .int .i64 0, .int .i64 0, .string (⟨#[]⟩ : ByteArray)] 29 (0, 0)), (b2, .cells #[slcV A00 a0.length, .int .u32 a1, .int .i64 x76, .string x77, .int .i64 x78, .int .i64 x79, slcV A81 x80.length, .int .u64 x82, .int .u64 x83, .bool x84, .int .i64 x85, .bool x86, .int .i64 x87, .int .i64 x88, .string x89] 62 (0, 0))] [((b1 + 1), .cells #[.int .i64 0, .int .i64 0, .slice none 0 0] 35 (0, 0))] (by kernel_rfl) (by kernel_rfl) (by kernel_rfl) (by kernel_rfl) (Heads.val (fun tt Ψ => OpV.run [] [] (by kernel_rfl) (fun _ => by kernel_rfl)) (Heads.val (fun tt Ψ => OpV.run [] [] (by kernel_rfl) (fun _ => by kernel_rfl)) (Heads.val (fun tt Ψ => OpV.run [] [] (by kernel_rfl) (fun _ => by kernel_rfl)) (Heads.val (fun tt Ψ => OpV.run [1, 1, 1] [b2, b2, b2] (by kernel_rfl) (fun _ => by kernel_rfl)) (Heads.val (fun tt Ψ => OpV.run [] [] (by kernel_rfl) (fun _ => by kernel_rfl)) (Heads.val (fun tt Ψ => OpV.run [] [] (by kernel_rfl) (fun _ => by kernel_rfl)) (Heads.val (fun tt Ψ => OpV.run [] [] (by kernel_rfl) (fun _ => by kernel_rfl)) (Heads.val (fun tt Ψ => OpV.run [1, 1, 1, 1, 1, 1, 1, 1] [b2, b2, b2, b2, b2, b2, b2, b2] (by kernel_rfl) (fun _ => by kernel_rfl)) (Heads.put (fun x x' h => rfl) 0 (b1 + 1) (.cells #[.int .i64 0, .int .i64 0, .slice none 0 0] 35 (0, 0)) (fun tt => .cells #[.int .i64 0, .int .i64 0, .slice none 0 0] 35 (0, 0)) (by kernel_rfl) rfl (fun _ => by kernel_rfl) (fun tt Ψ => OpP.run [2, 2, 2] [(b1 + 1), (b1 + 1), (b1 + 1)] (by kernel_rfl) (fun _ _ => by kernel_rfl) (fun _ _ => by kernel_rfl)) Heads.nil))))))))) (fun s90 tt => [(33, .pointer (some ⟨b2, 0, none⟩)), (34, .pointer (some ⟨b2, 0, none⟩)), (35, .pointer (some ⟨b2, 4, none⟩)), (36, .agg #[.int .i64 x78, .int .i64 x79, slcV A81 x80.length]), (37, .pointer (some ⟨b2, 0, none⟩)), (38, .pointer (some ⟨b2, 0, none⟩)), (39, .pointer (some ⟨b2, 7, none⟩)), (40, .agg #[.int .u64 x82, .int .u64 x83, .bool x84, .int .i64 x85, .bool x86, .int .i64 x87, .int .i64 x88, .string x89]), (6, .pointer (some ⟨(b1 + 1), 0, none⟩)), (7, .pointer (some ⟨(b1 + 2), 0, none⟩)), (8, .int .i64 x75), (9, .pointer (some ⟨b2, 0, none⟩))]) (fun s90 tt => [((b1 + 2), .cells #[.int .u64 0, .int .u64 0, .bool false, .int .i64 0, .bool false, .int .i64 0, .int .i64 0, .string (⟨#[]⟩ : ByteArray)] 29 (0, 0)), (b2, .cells #[slcV A00 a0.length, .int .u32 a1, .int .i64 x76, .string x77, .int .i64 x78, .int .i64 x79, slcV A81 x80.length, .int .u64 x82, .int .u64 x83, .bool x84, .int .i64 x85, .bool x86, .int .i64 x87, .int .i64 x88, .string x89] 62 (0, 0)), ((b1 + 1), .cells #[.int .i64 x78, .int .i64 x79, slcV A81 x80.length] 35 (0, 0))]) (fun tt => ([] ++ [Row 1 (pl (encI .u32)) noK A81 x80, Row 1 (pl (encI .u32)) noK (SkL.nil (fun _ => ())) ([] : List Int), Row 3 api_Seg.encS api_Seg.inK A00 a0]) ++ Glob) (fun _ _ => by kernel_rfl) (fun _ _ => by kernel_rfl) (fun _ => by kernel_rfl) (fun s90 tt => ?_)
    refine WL.run 2 [0, 0, 0, 0, 0, 0, 0, 0] [6, 7, 8] (fun _ => [(6, .pointer (some ⟨(b1 + 1), 0, none⟩)), (7, .pointer (some ⟨(b1 + 2), 0, none⟩)), (8, .int .i64 0)]) (fun _ => [((b1 + 2), .cells #[.int .u64 x82, .int .u64 x83, .bool x84, .int .i64 x85, .bool x86, .int .i64 x87, .int .i64 x88, .string x89] 29 (0, 0)), (b2, .cells #[slcV A00 a0.length, .int .u32 a1, .int .i64 x76, .string x77, .int .i64 x78, .int .i64 x79, slcV A81 x80.length, .int .u64 x82, .int .u64 x83, .bool x84, .int .i64 x85, .bool x86, .int .i64 x87, .int .i64 x88, .string x89] 62 (0, 0)), ((b1 + 1), .cells #[.int .i64 x78, .int .i64 x79, slcV A81 x80.length] 35 (0, 0))]) (fun _ => [(b1 + 2), (b1 + 2), (b1 + 2), (b1 + 2), (b1 + 2), (b1 + 2), (b1 + 2), (b1 + 2)]) (fun _ => by kernel_rfl) (fun _ => ?_)
    refine WP.done ?_
    refine WP.keep [true, false, true] (by kernel_rfl : _ = [((b1 + 2), .cells #[.int .u64 x82, .int .u64 x83, .bool x84, .int .i64 x85, .bool x86, .int .i64 x87, .int .i64 x88, .string x89] 29 (0, 0)), ((b1 + 1), .cells #[.int .i64 x78, .int .i64 x79, slcV A81 x80.length] 35 (0, 0))]) ?_
    obtain rfl := Option.some.inj hM
    exact WP.ret [1, 1, 1, 0, 0, 0, 0, 0, 0, 0, 0] [(b1 + 1), (b1 + 1), (b1 + 1), (b1 + 2), (b1 + 2), (b1 + 2), (b1 + 2), (b1 + 2), (b1 + 2), (b1 + 2), (b1 + 2)] (.tuple #[.agg #[.int .i64 x78, .int .i64 x79, slcV A81 x80.length], .agg #[.int .u64 x82, .int .u64 x83, .bool x84, .int .i64 x85, .bool x86, .int .i64 x87, .int .i64 x88, .string x89], .int .i64 0]) (by kernel_rfl) (fun w' hw => ⟨A81, rfl, (hw.pick [] (by kernel_rfl)).less (sub_ret [0] [2] (by kernel_rfl) (by kernel_rfl))⟩)
  ·
    refine WP.unroll 40 ?_
    refine WP.seq ?_
    refine WP.run [] [6, 7, 8, 9, 20, 21, 22] (fun _ => [(6, .pointer (some ⟨(b1 + 1), 0, none⟩)), (7, .pointer (some ⟨(b1 + 2), 0, none⟩)), (8, .int .i64 0), (9, .pointer (some ⟨b2, 0, none⟩)), (20, .agg #[.int .i64 1, .int .i64 2, .int .i64 3, .int .i64 4]), (21, .int .i64 0), (22, .bool true)]) (fun _ => [((b1 + 1), .cells #[.int .i64 0, .int .i64 0, .slice none 0 0] 35 (0, 0)), ((b1 + 2), .cells #[.int .u64 0, .int .u64 0, .bool false, .int .i64 0, .bool false, .int .i64 0, .int .i64 0, .string (⟨#[]⟩ : ByteArray)] 29 (0, 0)), (b2, .cells #[slcV A00 a0.length, .int .u32 a1, .int .i64 0, .string a2.Body, .int .i64 0, .int .i64 0, .slice none 0 0, .int .u64 0, .int .u64 0, .bool false, .int .i64 0, .bool false, .int .i64 0, .int .i64 0, .string (⟨#[]⟩ : ByteArray)] 62 (0, 0))]) (fun _ => []) (fun _ => by kernel_rfl) (fun _ => ?_)
    refine WP.seq ?_
    refine WP.yes rfl rfl ?_
    refine WP.skip ?_
    refine WP.seq ?_
    refine WP.block ?_
    refine WP.seq ?_
    refine WP.run [] [6, 7, 8, 9, 11, 12, 20, 21, 22, 23, 24] (fun _ => [(6, .pointer (some ⟨(b1 + 1), 0, none⟩)), (7, .pointer (some ⟨(b1 + 2), 0, none⟩)), (8, .int .i64 0), (9, .pointer (some ⟨b2, 0, none⟩)), (11, .int .i64 0), (12, .int .i64 1), (20, .agg #[.int .i64 1, .int .i64 2, .int .i64 3, .int .i64 4]), (21, .int .i64 0), (22, .bool true), (23, .int .i64 0), (24, .int .i64 1)]) (fun _ => [((b1 + 1), .cells #[.int .i64 0, .int .i64 0, .slice none 0 0] 35 (0, 0)), ((b1 + 2), .cells #[.int .u64 0, .int .u64 0, .bool false, .int .i64 0, .bool false, .int .i64 0, .int .i64 0, .string (⟨#[]⟩ : ByteArray)] 29 (0, 0)), (b2, .cells #[slcV A00 a0.length, .int .u32 a1, .int .i64 0, .string a2.Body, .int .i64 0, .int .i64 0, .slice none 0 0, .int .u64 0, .int .u64 0, .bool false, .int .i64 0, .bool false, .int .i64 0, .int .i64 0, .string (⟨#[]⟩ : ByteArray)] 62 (0, 0))]) (fun _ => []) (fun _ => by kernel_rfl) (fun _ => ?_)
    refine WP.seq ?_
    refine WP.region ?_
    refine WL.run 2 [] [6, 7, 8, 9, 11, 12, 20, 21, 22, 23, 24, 25, 26] (fun _ => [(6, .pointer (some ⟨(b1 + 1), 0, none⟩)), (7, .pointer (some ⟨(b1 + 2), 0, none⟩)), (8, .int .i64 0), (9, .pointer (some ⟨b2, 0, none⟩)), (11, .int .i64 0), (12, .int .i64 1), (20, .agg #[.int .i64 1, .int .i64 2, .int .i64 3, .int .i64 4]), (21, .int .i64 0), (22, .bool true), (23, .int .i64 0), (24, .int .i64 1), (25, .pointer (some ⟨b2, 0, none⟩)), (26, .int .i64 0)]) (fun _ => [((b1 + 1), .cells #[.int .i64 0, .int .i64 0, .slice none 0 0] 35 (0, 0)), ((b1 + 2), .cells #[.int .u64 0, .int .u64 0, .bool false, .int .i64 0, .bool false, .int .i64 0, .int .i64 0, .string (⟨#[]⟩ : ByteArray)] 29 (0, 0)), (b2, .cells #[slcV A00 a0.length, .int .u32 a1, .int .i64 0, .string a2.Body, .int .i64 0, .int .i64 0, .slice none 0 0, .int .u64 0, .int .u64 0, .bool false, .int .i64 0, .bool false, .int .i64 0, .int .i64 0, .string (⟨#[]⟩ : ByteArray)] 62 (0, 0))]) (fun _ => []) (fun _ => by kernel_rfl) (fun _ => ?_)
    refine WL.know (Row 1 (pl (encI .u32)) noK (SkL.nil (fun _ => ())) ([] : List Int)) [] [] (by kernel_rfl) (fun w _ => RowP.empty (fun _ => rfl)) ?_
    obtain ⟨⟨r7, r8, r9, r10, r11, r12, r13, r14, r15, r16, r17, r18, r19, r20⟩, h21, hM⟩ := bind_some hM
    dsimp only at hM
    refine WL.callX (F0 := [Row 3 api_Seg.encS api_Seg.inK A00 a0, Row 1 (pl (encI .u32)) noK (SkL.nil (fun _ => ())) ([] : List Int)]) [] [] [false, false, true] (fun _ => _) [1, 0] (by kernel_rfl) (tunnel_opener_step_calls k b2 A00 (SkL.nil (fun _ => ())) a0 a1 0 a2.Body 0 0 ([] : List Int) 0 0 false 0 false 0 0 (⟨#[]⟩ : ByteArray) 0 _ h21) rfl rfl (by kernel_rfl) (by kernel_rfl) (fun _ => rfl) (fun A22 => ?_)
    refine WL.run 1 [] [6, 7, 8, 9, 11, 12, 20, 21, 22, 23, 24, 25, 26, 27, 28] (fun _ => [(6, .pointer (some ⟨(b1 + 1), 0, none⟩)), (7, .pointer (some ⟨(b1 + 2), 0, none⟩)), (8, .int .i64 0), (9, .pointer (some ⟨b2, 0, none⟩)), (11, .int .i64 0), (12, .int .i64 1), (20, .agg #[.int .i64 1, .int .i64 2, .int .i64 3, .int .i64 4]), (21, .int .i64 0), (22, .bool true), (23, .int .i64 0), (24, .int .i64 1), (25, .pointer (some ⟨b2, 0, none⟩)), (26, .int .i64 0), (27, .bool r7), (28, .bool (!r7))]) (fun _ => [(b2, .cells #[slcV A00 a0.length, .int .u32 a1, .int .i64 r8, .string r9, .int .i64 r10, .int .i64 r11, slcV A22 r12.length, .int .u64 r13, .int .u64 r14, .bool r15, .int .i64 r16, .bool r17, .int .i64 r18, .int .i64 r19, .string r20] 62 (0, 0)), ((b1 + 1), .cells #[.int .i64 0, .int .i64 0, .slice none 0 0] 35 (0, 0)), ((b1 + 2), .cells #[.int .u64 0, .int .u64 0, .bool false, .int .i64 0, .bool false, .int .i64 0, .int .i64 0, .string (⟨#[]⟩ : ByteArray)] 29 (0, 0))]) (fun _ => []) (fun _ => by kernel_rfl) (fun _ => ?_)
    refine WP.done ?_
    refine WP.cond (!r7) rfl rfl (fun c23 => ?_) (fun c23 => ?_)
    · replace hM := cond_t hM c23
      refine WP.seq ?_
      refine WP.run [1, 1, 1, 2, 2, 2, 2, 2, 2, 2, 2] [6, 7, 8, 9, 11, 12, 20, 21, 22, 23, 24, 25, 26, 27, 28, 29, 30, 31] (fun _ => [(6, .pointer (some ⟨(b1 + 1), 0, none⟩)), (7, .pointer (some ⟨(b1 + 2), 0, none⟩)), (8, .int .i64 1), (9, .pointer (some ⟨b2, 0, none⟩)), (11, .int .i64 0), (12, .int .i64 1), (20, .agg #[.int .i64 1, .int .i64 2, .int .i64 3, .int .i64 4]), (21, .int .i64 0), (22, .bool true), (23, .int .i64 0), (24, .int .i64 1), (25, .pointer (some ⟨b2, 0, none⟩)), (26, .int .i64 0), (27, .bool r7), (28, .bool (!r7)), (29, .agg #[.int .i64 0, .int .i64 0, .slice none 0 0]), (30, .agg #[.int .u64 0, .int .u64 0, .bool false, .int .i64 0, .bool false, .int .i64 0, .int .i64 0, .string (⟨#[]⟩ : ByteArray)]), (31, .int .i64 1)]) (fun _ => [(b2, .cells #[slcV A00 a0.length, .int .u32 a1, .int .i64 r8, .string r9, .int .i64 r10, .int .i64 r11, slcV A22 r12.length, .int .u64 r13, .int .u64 r14, .bool r15, .int .i64 r16, .bool r17, .int .i64 r18, .int .i64 r19, .string r20] 62 (0, 0)), ((b1 + 1), .cells #[.int .i64 0, .int .i64 0, .slice none 0 0] 35 (0, 0)), ((b1 + 2), .cells #[.int .u64 0, .int .u64 0, .bool false, .int .i64 0, .bool false, .int .i64 0, .int .i64 0, .string (⟨#[]⟩ : ByteArray)] 29 (0, 0))]) (fun _ => [(b1 + 2), (b1 + 2), (b1 + 2), (b1 + 2), (b1 + 2), (b1 + 2), (b1 + 2), (b1 + 2), (b1 + 1), (b1 + 1), (b1 + 1)]) (fun _ => by kernel_rfl) (fun _ => ?_)
      obtain rfl := Option.some.inj hM
      exact WP.ret [1, 1, 1, 2, 2, 2, 2, 2, 2, 2, 2] [(b1 + 1), (b1 + 1), (b1 + 1), (b1 + 2), (b1 + 2), (b1 + 2), (b1 + 2), (b1 + 2), (b1 + 2), (b1 + 2), (b1 + 2)] (.tuple #[.agg #[.int .i64 0, .int .i64 0, slcV (SkL.nil (fun _ => ())) ([] : List Int).length], .agg #[.int .u64 0, .int .u64 0, .bool false, .int .i64 0, .bool false, .int .i64 0, .int .i64 0, .string (⟨#[]⟩ : ByteArray)], .int .i64 1]) (by kernel_rfl) (fun w' hw => ⟨(SkL.nil (fun _ => ())), rfl, (hw.pick [] (by kernel_rfl)).less (sub_ret [1] [2] (by kernel_rfl) (by kernel_rfl))⟩)
    · replace hM := cond_f hM c23
      refine WP.skip ?_
      refine WP.leave ?_
      refine WP.run [] [6, 7, 8, 9, 11, 12, 20, 21, 22, 23, 24, 25, 26, 27, 28, 32] (fun _ => [(6, .pointer (some ⟨(b1 + 1), 0, none⟩)), (7, .pointer (some ⟨(b1 + 2), 0, none⟩)), (8, .int .i64 0), (9, .pointer (some ⟨b2, 0, none⟩)), (11, .int .i64 0), (12, .int .i64 1), (20, .agg #[.int .i64 1, .int .i64 2, .int .i64 3, .int .i64 4]), (21, .int .i64 1), (22, .bool true), (23, .int .i64 0), (24, .int .i64 1), (25, .pointer (some ⟨b2, 0, none⟩)), (26, .int .i64 0), (27, .bool r7), (28, .bool (!r7)), (32, .int .i64 1)]) (fun _ => [(b2, .cells #[slcV A00 a0.length, .int .u32 a1, .int .i64 r8, .string r9, .int .i64 r10, .int .i64 r11, slcV A22 r12.length, .int .u64 r13, .int .u64 r14, .bool r15, .int .i64 r16, .bool r17, .int .i64 r18, .int .i64 r19, .string r20] 62 (0, 0)), ((b1 + 1), .cells #[.int .i64 0, .int .i64 0, .slice none 0 0] 35 (0, 0)), ((b1 + 2), .cells #[.int .u64 0, .int .u64 0, .bool false, .int .i64 0, .bool false, .int .i64 0, .int .i64 0, .string (⟨#[]⟩ : ByteArray)] 29 (0, 0))]) (fun _ => []) (fun _ => by kernel_rfl) (fun _ => ?_)
      refine WP.round ?_
      refine WP.seq ?_
      refine WP.run [] [6, 7, 8, 9, 11, 12, 20, 21, 22, 23, 24, 25, 26, 27, 28, 32] (fun _ => [(6, .pointer (some ⟨(b1 + 1), 0, none⟩)), (7, .pointer (some ⟨(b1 + 2), 0, none⟩)), (8, .int .i64 0), (9, .pointer (some ⟨b2, 0, none⟩)), (11, .int .i64 0), (12, .int .i64 1), (20, .agg #[.int .i64 1, .int .i64 2, .int .i64 3, .int .i64 4]), (21, .int .i64 1), (22, .bool true), (23, .int .i64 0), (24, .int .i64 1), (25, .pointer (some ⟨b2, 0, none⟩)), (26, .int .i64 0), (27, .bool r7), (28, .bool (!r7)), (32, .int .i64 1)]) (fun _ => [(b2, .cells #[slcV A00 a0.length, .int .u32 a1, .int .i64 r8, .string r9, .int .i64 r10, .int .i64 r11, slcV A22 r12.length, .int .u64 r13, .int .u64 r14, .bool r15, .int .i64 r16, .bool r17, .int .i64 r18, .int .i64 r19, .string r20] 62 (0, 0)), ((b1 + 1), .cells #[.int .i64 0, .int .i64 0, .slice none 0 0] 35 (0, 0)), ((b1 + 2), .cells #[.int .u64 0, .int .u64 0, .bool false, .int .i64 0, .bool false, .int .i64 0, .int .i64 0, .string (⟨#[]⟩ : ByteArray)] 29 (0, 0))]) (fun _ => []) (fun _ => by kernel_rfl) (fun _ => ?_)
      refine WP.seq ?_
      refine WP.yes rfl rfl ?_
      refine WP.skip ?_
      refine WP.seq ?_
      refine WP.block ?_
      refine WP.seq ?_
      refine WP.run [] [6, 7, 8, 9, 11, 12, 20, 21, 22, 23, 24, 25, 26, 27, 28, 32] (fun _ => [(6, .pointer (some ⟨(b1 + 1), 0, none⟩)), (7, .pointer (some ⟨(b1 + 2), 0, none⟩)), (8, .int .i64 0), (9, .pointer (some ⟨b2, 0, none⟩)), (11, .int .i64 1), (12, .int .i64 2), (20, .agg #[.int .i64 1, .int .i64 2, .int .i64 3, .int .i64 4]), (21, .int .i64 1), (22, .bool true), (23, .int .i64 1), (24, .int .i64 2), (25, .pointer (some ⟨b2, 0, none⟩)), (26, .int .i64 0), (27, .bool r7), (28, .bool (!r7)), (32, .int .i64 1)]) (fun _ => [(b2, .cells #[slcV A00 a0.length, .int .u32 a1, .int .i64 r8, .string r9, .int .i64 r10, .int .i64 r11, slcV A22 r12.length, .int .u64 r13, .int .u64 r14, .bool r15, .int .i64 r16, .bool r17, .int .i64 r18, .int .i64 r19, .string r20] 62 (0, 0)), ((b1 + 1), .cells #[.int .i64 0, .int .i64 0, .slice none 0 0] 35 (0, 0)), ((b1 + 2), .cells #[.int .u64 0, .int .u64 0, .bool false, .int .i64 0, .bool false, .int .i64 0, .int .i64 0, .string (⟨#[]⟩ : ByteArray)] 29 (0, 0))]) (fun _ => []) (fun _ => by kernel_rfl) (fun _ => ?_)
      refine WP.seq ?_
      refine WP.region ?_
      refine WL.run 2 [] [6, 7, 8, 9, 11, 12, 20, 21, 22, 23, 24, 25, 26, 27, 28, 32] (fun _ => [(6, .pointer (some ⟨(b1 + 1), 0, none⟩)), (7, .pointer (some ⟨(b1 + 2), 0, none⟩)), (8, .int .i64 0), (9, .pointer (some ⟨b2, 0, none⟩)), (11, .int .i64 1), (12, .int .i64 2), (20, .agg #[.int .i64 1, .int .i64 2, .int .i64 3, .int .i64 4]), (21, .int .i64 1), (22, .bool true), (23, .int .i64 1), (24, .int .i64 2), (25, .pointer (some ⟨b2, 0, none⟩)), (26, .int .i64 1), (27, .bool r7), (28, .bool (!r7)), (32, .int .i64 1)]) (fun _ => [(b2, .cells #[slcV A00 a0.length, .int .u32 a1, .int .i64 r8, .string r9, .int .i64 r10, .int .i64 r11, slcV A22 r12.length, .int .u64 r13, .int .u64 r14, .bool r15, .int .i64 r16, .bool r17, .int .i64 r18, .int .i64 r19, .string r20] 62 (0, 0)), ((b1 + 1), .cells #[.int .i64 0, .int .i64 0, .slice none 0 0] 35 (0, 0)), ((b1 + 2), .cells #[.int .u64 0, .int .u64 0, .bool false, .int .i64 0, .bool false, .int .i64 0, .int .i64 0, .string (⟨#[]⟩ : ByteArray)] 29 (0, 0))]) (fun _ => []) (fun _ => by kernel_rfl) (fun _ => ?_)
      obtain ⟨⟨r24, r25, r26, r27, r28, r29, r30, r31, r32, r33, r34, r35, r36, r37⟩, h38, hM⟩ := bind_some hM
      dsimp only at hM
      refine WL.callX (F0 := [Row 3 api_Seg.encS api_Seg.inK A00 a0, Row 1 (pl (encI .u32)) noK A22 r12]) [] [] [true, false, false] (fun _ => _) [2, 0] (by kernel_rfl) (tunnel_opener_step_calls k b2 A00 A22 a0 a1 r8 r9 r10 r11 r12 r13 r14 r15 r16 r17 r18 r19 r20 1 _ h38) rfl rfl (by kernel_rfl) (by kernel_rfl) (fun _ => rfl) (fun A39 => ?_)
      refine WL.run 1 [] [6, 7, 8, 9, 11, 12, 20, 21, 22, 23, 24, 25, 26, 27, 28, 32] (fun _ => [(6, .pointer (some ⟨(b1 + 1), 0, none⟩)), (7, .pointer (some ⟨(b1 + 2), 0, none⟩)), (8, .int .i64 0), (9, .pointer (some ⟨b2, 0, none⟩)), (11, .int .i64 1), (12, .int .i64 2), (20, .agg #[.int .i64 1, .int .i64 2, .int .i64 3, .int .i64 4]), (21, .int .i64 1), (22, .bool true), (23, .int .i64 1), (24, .int .i64 2), (25, .pointer (some ⟨b2, 0, none⟩)), (26, .int .i64 1), (27, .bool r24), (28, .bool (!r24)), (32, .int .i64 1)]) (fun _ => [(b2, .cells #[slcV A00 a0.length, .int .u32 a1, .int .i64 r25, .string r26, .int .i64 r27, .int .i64 r28, slcV A39 r29.length, .int .u64 r30, .int .u64 r31, .bool r32, .int .i64 r33, .bool r34, .int .i64 r35, .int .i64 r36, .string r37] 62 (0, 0)), ((b1 + 1), .cells #[.int .i64 0, .int .i64 0, .slice none 0 0] 35 (0, 0)), ((b1 + 2), .cells #[.int .u64 0, .int .u64 0, .bool false, .int .i64 0, .bool false, .int .i64 0, .int .i64 0, .string (⟨#[]⟩ : ByteArray)] 29 (0, 0))]) (fun _ => []) (fun _ => by kernel_rfl) (fun _ => ?_)
      refine WP.done ?_
      refine WP.cond (!r24) rfl rfl (fun c40 => ?_) (fun c40 => ?_)
      · replace hM := cond_t hM c40
        refine WP.seq ?_
        refine WP.run [1, 1, 1, 2, 2, 2, 2, 2, 2, 2, 2] [6, 7, 8, 9, 11, 12, 20, 21, 22, 23, 24, 25, 26, 27, 28, 29, 30, 31, 32] (fun _ => [(6, .pointer (some ⟨(b1 + 1), 0, none⟩)), (7, .pointer (some ⟨(b1 + 2), 0, none⟩)), (8, .int .i64 2), (9, .pointer (some ⟨b2, 0, none⟩)), (11, .int .i64 1), (12, .int .i64 2), (20, .agg #[.int .i64 1, .int .i64 2, .int .i64 3, .int .i64 4]), (21, .int .i64 1), (22, .bool true), (23, .int .i64 1), (24, .int .i64 2), (25, .pointer (some ⟨b2, 0, none⟩)), (26, .int .i64 1), (27, .bool r24), (28, .bool (!r24)), (29, .agg #[.int .i64 0, .int .i64 0, .slice none 0 0]), (30, .agg #[.int .u64 0, .int .u64 0, .bool false, .int .i64 0, .bool false, .int .i64 0, .int .i64 0, .string (⟨#[]⟩ : ByteArray)]), (31, .int .i64 2), (32, .int .i64 1)]) (fun _ => [(b2, .cells #[slcV A00 a0.length, .int .u32 a1, .int .i64 r25, .string r26, .int .i64 r27, .int .i64 r28, slcV A39 r29.length, .int .u64 r30, .int .u64 r31, .bool r32, .int .i64 r33, .bool r34, .int .i64 r35, .int .i64 r36, .string r37] 62 (0, 0)), ((b1 + 1), .cells #[.int .i64 0, .int .i64 0, .slice none 0 0] 35 (0, 0)), ((b1 + 2), .cells #[.int .u64 0, .int .u64 0, .bool false, .int .i64 0, .bool false, .int .i64 0, .int .i64 0, .string (⟨#[]⟩ : ByteArray)] 29 (0, 0))]) (fun _ => [(b1 + 2), (b1 + 2), (b1 + 2), (b1 + 2), (b1 + 2), (b1 + 2), (b1 + 2), (b1 + 2), (b1 + 1), (b1 + 1), (b1 + 1)]) (fun _ => by kernel_rfl) (fun _ => ?_)
        obtain rfl := Option.some.inj hM
        exact WP.ret [1, 1, 1, 2, 2, 2, 2, 2, 2, 2, 2] [(b1 + 1), (b1 + 1), (b1 + 1), (b1 + 2), (b1 + 2), (b1 + 2), (b1 + 2), (b1 + 2), (b1 + 2), (b1 + 2), (b1 + 2)] (.tuple #[.agg #[.int .i64 0, .int .i64 0, slcV (SkL.nil (fun _ => ())) ([] : List Int).length], .agg #[.int .u64 0, .int .u64 0, .bool false, .int .i64 0, .bool false, .int .i64 0, .int .i64 0, .string (⟨#[]⟩ : ByteArray)], .int .i64 2]) (by kernel_rfl) (fun w' hw => ⟨(SkL.nil (fun _ => ())), rfl, (hw.pick [] (by kernel_rfl)).less (sub_ret [2] [3] (by kernel_rfl) (by kernel_rfl))⟩)
      · replace hM := cond_f hM c40
        refine WP.skip ?_
        refine WP.leave ?_
        refine WP.run [] [6, 7, 8, 9, 11, 12, 20, 21, 22, 23, 24, 25, 26, 27, 28, 32] (fun _ => [(6, .pointer (some ⟨(b1 + 1), 0, none⟩)), (7, .pointer (some ⟨(b1 + 2), 0, none⟩)), (8, .int .i64 0), (9, .pointer (some ⟨b2, 0, none⟩)), (11, .int .i64 1), (12, .int .i64 2), (20, .agg #[.int .i64 1, .int .i64 2, .int .i64 3, .int .i64 4]), (21, .int .i64 2), (22, .bool true), (23, .int .i64 1), (24, .int .i64 2), (25, .pointer (some ⟨b2, 0, none⟩)), (26, .int .i64 1), (27, .bool r24), (28, .bool (!r24)), (32, .int .i64 2)]) (fun _ => [(b2, .cells #[slcV A00 a0.length, .int .u32 a1, .int .i64 r25, .string r26, .int .i64 r27, .int .i64 r28, slcV A39 r29.length, .int .u64 r30, .int .u64 r31, .bool r32, .int .i64 r33, .bool r34, .int .i64 r35, .int .i64 r36, .string r37] 62 (0, 0)), ((b1 + 1), .cells #[.int .i64 0, .int .i64 0, .slice none 0 0] 35 (0, 0)), ((b1 + 2), .cells #[.int .u64 0, .int .u64 0, .bool false, .int .i64 0, .bool false, .int .i64 0, .int .i64 0, .string (⟨#[]⟩ : ByteArray)] 29 (0, 0))]) (fun _ => []) (fun _ => by kernel_rfl) (fun _ => ?_)
        refine WP.round ?_
        refine WP.seq ?_
        refine WP.run [] [6, 7, 8, 9, 11, 12, 20, 21, 22, 23, 24, 25, 26, 27, 28, 32] (fun _ => [(6, .pointer (some ⟨(b1 + 1), 0, none⟩)), (7, .pointer (some ⟨(b1 + 2), 0, none⟩)), (8, .int .i64 0), (9, .pointer (some ⟨b2, 0, none⟩)), (11, .int .i64 1), (12, .int .i64 2), (20, .agg #[.int .i64 1, .int .i64 2, .int .i64 3, .int .i64 4]), (21, .int .i64 2), (22, .bool true), (23, .int .i64 1), (24, .int .i64 2), (25, .pointer (some ⟨b2, 0, none⟩)), (26, .int .i64 1), (27, .bool r24), (28, .bool (!r24)), (32, .int .i64 2)]) (fun _ => [(b2, .cells #[slcV A00 a0.length, .int .u32 a1, .int .i64 r25, .string r26, .int .i64 r27, .int .i64 r28, slcV A39 r29.length, .int .u64 r30, .int .u64 r31, .bool r32, .int .i64 r33, .bool r34, .int .i64 r35, .int .i64 r36, .string r37] 62 (0, 0)), ((b1 + 1), .cells #[.int .i64 0, .int .i64 0, .slice none 0 0] 35 (0, 0)), ((b1 + 2), .cells #[.int .u64 0, .int .u64 0, .bool false, .int .i64 0, .bool false, .int .i64 0, .int .i64 0, .string (⟨#[]⟩ : ByteArray)] 29 (0, 0))]) (fun _ => []) (fun _ => by kernel_rfl) (fun _ => ?_)
        refine WP.seq ?_
        refine WP.yes rfl rfl ?_
        refine WP.skip ?_
        refine WP.seq ?_
        refine WP.block ?_
        refine WP.seq ?_
        refine WP.run [] [6, 7, 8, 9, 11, 12, 20, 21, 22, 23, 24, 25, 26, 27, 28, 32] (fun _ => [(6, .pointer (some ⟨(b1 + 1), 0, none⟩)), (7, .pointer (some ⟨(b1 + 2), 0, none⟩)), (8, .int .i64 0), (9, .pointer (some ⟨b2, 0, none⟩)), (11, .int .i64 2), (12, .int .i64 3), (20, .agg #[.int .i64 1, .int .i64 2, .int .i64 3, .int .i64 4]), (21, .int .i64 2), (22, .bool true), (23, .int .i64 2), (24, .int .i64 3), (25, .pointer (some ⟨b2, 0, none⟩)), (26, .int .i64 1), (27, .bool r24), (28, .bool (!r24)), (32, .int .i64 2)]) (fun _ => [(b2, .cells #[slcV A00 a0.length, .int .u32 a1, .int .i64 r25, .string r26, .int .i64 r27, .int .i64 r28, slcV A39 r29.length, .int .u64 r30, .int .u64 r31, .bool r32, .int .i64 r33, .bool r34, .int .i64 r35, .int .i64 r36, .string r37] 62 (0, 0)), ((b1 + 1), .cells #[.int .i64 0, .int .i64 0, .slice none 0 0] 35 (0, 0)), ((b1 + 2), .cells #[.int .u64 0, .int .u64 0, .bool false, .int .i64 0, .bool false, .int .i64 0, .int .i64 0, .string (⟨#[]⟩ : ByteArray)] 29 (0, 0))]) (fun _ => []) (fun _ => by kernel_rfl) (fun _ => ?_)
        refine WP.seq ?_
        refine WP.region ?_
        refine WL.run 2 [] [6, 7, 8, 9, 11, 12, 20, 21, 22, 23, 24, 25, 26, 27, 28, 32] (fun _ => [(6, .pointer (some ⟨(b1 + 1), 0, none⟩)), (7, .pointer (some ⟨(b1 + 2), 0, none⟩)), (8, .int .i64 0), (9, .pointer (some ⟨b2, 0, none⟩)), (11, .int .i64 2), (12, .int .i64 3), (20, .agg #[.int .i64 1, .int .i64 2, .int .i64 3, .int .i64 4]), (21, .int .i64 2), (22, .bool true), (23, .int .i64 2), (24, .int .i64 3), (25, .pointer (some ⟨b2, 0, none⟩)), (26, .int .i64 2), (27, .bool r24), (28, .bool (!r24)), (32, .int .i64 2)]) (fun _ => [(b2, .cells #[slcV A00 a0.length, .int .u32 a1, .int .i64 r25, .string r26, .int .i64 r27, .int .i64 r28, slcV A39 r29.length, .int .u64 r30, .int .u64 r31, .bool r32, .int .i64 r33, .bool r34, .int .i64 r35, .int .i64 r36, .string r37] 62 (0, 0)), ((b1 + 1), .cells #[.int .i64 0, .int .i64 0, .slice none 0 0] 35 (0, 0)), ((b1 + 2), .cells #[.int .u64 0, .int .u64 0, .bool false, .int .i64 0, .bool false, .int .i64 0, .int .i64 0, .string (⟨#[]⟩ : ByteArray)] 29 (0, 0))]) (fun _ => []) (fun _ => by kernel_rfl) (fun _ => ?_)
        obtain ⟨⟨r41, r42, r43, r44, r45, r46, r47, r48, r49, r50, r51, r52, r53, r54⟩, h55, hM⟩ := bind_some hM
        dsimp only at hM
        refine WL.callX (F0 := [Row 3 api_Seg.encS api_Seg.inK A00 a0, Row 1 (pl (encI .u32)) noK A39 r29]) [] [] [true, false, false] (fun _ => _) [3, 0] (by kernel_rfl) (tunnel_opener_step_calls k b2 A00 A39 a0 a1 r25 r26 r27 r28 r29 r30 r31 r32 r33 r34 r35 r36 r37 2 _ h55) rfl rfl (by kernel_rfl) (by kernel_rfl) (fun _ => rfl) (fun A56 => ?_)
        refine WL.run 1 [] [6, 7, 8, 9, 11, 12, 20, 21, 22, 23, 24, 25, 26, 27, 28, 32] (fun _ => [(6, .pointer (some ⟨(b1 + 1), 0, none⟩)), (7, .pointer (some ⟨(b1 + 2), 0, none⟩)), (8, .int .i64 0), (9, .pointer (some ⟨b2, 0, none⟩)), (11, .int .i64 2), (12, .int .i64 3), (20, .agg #[.int .i64 1, .int .i64 2, .int .i64 3, .int .i64 4]), (21, .int .i64 2), (22, .bool true), (23, .int .i64 2), (24, .int .i64 3), (25, .pointer (some ⟨b2, 0, none⟩)), (26, .int .i64 2), (27, .bool r41), (28, .bool (!r41)), (32, .int .i64 2)]) (fun _ => [(b2, .cells #[slcV A00 a0.length, .int .u32 a1, .int .i64 r42, .string r43, .int .i64 r44, .int .i64 r45, slcV A56 r46.length, .int .u64 r47, .int .u64 r48, .bool r49, .int .i64 r50, .bool r51, .int .i64 r52, .int .i64 r53, .string r54] 62 (0, 0)), ((b1 + 1), .cells #[.int .i64 0, .int .i64 0, .slice none 0 0] 35 (0, 0)), ((b1 + 2), .cells #[.int .u64 0, .int .u64 0, .bool false, .int .i64 0, .bool false, .int .i64 0, .int .i64 0, .string (⟨#[]⟩ : ByteArray)] 29 (0, 0))]) (fun _ => []) (fun _ => by kernel_rfl) (fun _ => ?_)
        refine WP.done ?_
        refine WP.cond (!r41) rfl rfl (fun c57 => ?_) (fun c57 => ?_)
        · replace hM := cond_t hM c57
          refine WP.seq ?_
          refine WP.run [1, 1, 1, 2, 2, 2, 2, 2, 2, 2, 2] [6, 7, 8, 9, 11, 12, 20, 21, 22, 23, 24, 25, 26, 27, 28, 29, 30, 31, 32] (fun _ => [(6, .pointer (some ⟨(b1 + 1), 0, none⟩)), (7, .pointer (some ⟨(b1 + 2), 0, none⟩)), (8, .int .i64 3), (9, .pointer (some ⟨b2, 0, none⟩)), (11, .int .i64 2), (12, .int .i64 3), (20, .agg #[.int .i64 1, .int .i64 2, .int .i64 3, .int .i64 4]), (21, .int .i64 2), (22, .bool true), (23, .int .i64 2), (24, .int .i64 3), (25, .pointer (some ⟨b2, 0, none⟩)), (26, .int .i64 2), (27, .bool r41), (28, .bool (!r41)), (29, .agg #[.int .i64 0, .int .i64 0, .slice none 0 0]), (30, .agg #[.int .u64 0, .int .u64 0, .bool false, .int .i64 0, .bool false, .int .i64 0, .int .i64 0, .string (⟨#[]⟩ : ByteArray)]), (31, .int .i64 3), (32, .int .i64 2)]) (fun _ => [(b2, .cells #[slcV A00 a0.length, .int .u32 a1, .int .i64 r42, .string r43, .int .i64 r44, .int .i64 r45, slcV A56 r46.length, .int .u64 r47, .int .u64 r48, .bool r49, .int .i64 r50, .bool r51, .int .i64 r52, .int .i64 r53, .string r54] 62 (0, 0)), ((b1 + 1), .cells #[.int .i64 0, .int .i64 0, .slice none 0 0] 35 (0, 0)), ((b1 + 2), .cells #[.int .u64 0, .int .u64 0, .bool false, .int .i64 0, .bool false, .int .i64 0, .int .i64 0, .string (⟨#[]⟩ : ByteArray)] 29 (0, 0))]) (fun _ => [(b1 + 2), (b1 + 2), (b1 + 2), (b1 + 2), (b1 + 2), (b1 + 2), (b1 + 2), (b1 + 2), (b1 + 1), (b1 + 1), (b1 + 1)]) (fun _ => by kernel_rfl) (fun _ => ?_)
          obtain rfl := Option.some.inj hM
          exact WP.ret [1, 1, 1, 2, 2, 2, 2, 2, 2, 2, 2] [(b1 + 1), (b1 + 1), (b1 + 1), (b1 + 2), (b1 + 2), (b1 + 2), (b1 + 2), (b1 + 2), (b1 + 2), (b1 + 2), (b1 + 2)] (.tuple #[.agg #[.int .i64 0, .int .i64 0, slcV (SkL.nil (fun _ => ())) ([] : List Int).length], .agg #[.int .u64 0, .int .u64 0, .bool false, .int .i64 0, .bool false, .int .i64 0, .int .i64 0, .string (⟨#[]⟩ : ByteArray)], .int .i64 3]) (by kernel_rfl) (fun w' hw => ⟨(SkL.nil (fun _ => ())), rfl, (hw.pick [] (by kernel_rfl)).less (sub_ret [3] [4] (by kernel_rfl) (by kernel_rfl))⟩)
        · replace hM := cond_f hM c57
          refine WP.skip ?_
          refine WP.leave ?_
          refine WP.run [] [6, 7, 8, 9, 11, 12, 20, 21, 22, 23, 24, 25, 26, 27, 28, 32] (fun _ => [(6, .pointer (some ⟨(b1 + 1), 0, none⟩)), (7, .pointer (some ⟨(b1 + 2), 0, none⟩)), (8, .int .i64 0), (9, .pointer (some ⟨b2, 0, none⟩)), (11, .int .i64 2), (12, .int .i64 3), (20, .agg #[.int .i64 1, .int .i64 2, .int .i64 3, .int .i64 4]), (21, .int .i64 3), (22, .bool true), (23, .int .i64 2), (24, .int .i64 3), (25, .pointer (some ⟨b2, 0, none⟩)), (26, .int .i64 2), (27, .bool r41), (28, .bool (!r41)), (32, .int .i64 3)]) (fun _ => [(b2, .cells #[slcV A00 a0.length, .int .u32 a1, .int .i64 r42, .string r43, .int .i64 r44, .int .i64 r45, slcV A56 r46.length, .int .u64 r47, .int .u64 r48, .bool r49, .int .i64 r50, .bool r51, .int .i64 r52, .int .i64 r53, .string r54] 62 (0, 0)), ((b1 + 1), .cells #[.int .i64 0, .int .i64 0, .slice none 0 0] 35 (0, 0)), ((b1 + 2), .cells #[.int .u64 0, .int .u64 0, .bool false, .int .i64 0, .bool false, .int .i64 0, .int .i64 0, .string (⟨#[]⟩ : ByteArray)] 29 (0, 0))]) (fun _ => []) (fun _ => by kernel_rfl) (fun _ => ?_)
          refine WP.round ?_
          refine WP.seq ?_
          refine WP.run [] [6, 7, 8, 9, 11, 12, 20, 21, 22, 23, 24, 25, 26, 27, 28, 32] (fun _ => [(6, .pointer (some ⟨(b1 + 1), 0, none⟩)), (7, .pointer (some ⟨(b1 + 2), 0, none⟩)), (8, .int .i64 0), (9, .pointer (some ⟨b2, 0, none⟩)), (11, .int .i64 2), (12, .int .i64 3), (20, .agg #[.int .i64 1, .int .i64 2, .int .i64 3, .int .i64 4]), (21, .int .i64 3), (22, .bool true), (23, .int .i64 2), (24, .int .i64 3), (25, .pointer (some ⟨b2, 0, none⟩)), (26, .int .i64 2), (27, .bool r41), (28, .bool (!r41)), (32, .int .i64 3)]) (fun _ => [(b2, .cells #[slcV A00 a0.length, .int .u32 a1, .int .i64 r42, .string r43, .int .i64 r44, .int .i64 r45, slcV A56 r46.length, .int .u64 r47, .int .u64 r48, .bool r49, .int .i64 r50, .bool r51, .int .i64 r52, .int .i64 r53, .string r54] 62 (0, 0)), ((b1 + 1), .cells #[.int .i64 0, .int .i64 0, .slice none 0 0] 35 (0, 0)), ((b1 + 2), .cells #[.int .u64 0, .int .u64 0, .bool false, .int .i64 0, .bool false, .int .i64 0, .int .i64 0, .string (⟨#[]⟩ : ByteArray)] 29 (0, 0))]) (fun _ => []) (fun _ => by kernel_rfl) (fun _ => ?_)
          refine WP.seq ?_
          refine WP.yes rfl rfl ?_
          refine WP.skip ?_
          refine WP.seq ?_
          refine WP.block ?_
          refine WP.seq ?_
          refine WP.run [] [6, 7, 8, 9, 11, 12, 20, 21, 22, 23, 24, 25, 26, 27, 28, 32] (fun _ => [(6, .pointer (some ⟨(b1 + 1), 0, none⟩)), (7, .pointer (some ⟨(b1 + 2), 0, none⟩)), (8, .int .i64 0), (9, .pointer (some ⟨b2, 0, none⟩)), (11, .int .i64 3), (12, .int .i64 4), (20, .agg #[.int .i64 1, .int .i64 2, .int .i64 3, .int .i64 4]), (21, .int .i64 3), (22, .bool true), (23, .int .i64 3), (24, .int .i64 4), (25, .pointer (some ⟨b2, 0, none⟩)), (26, .int .i64 2), (27, .bool r41), (28, .bool (!r41)), (32, .int .i64 3)]) (fun _ => [(b2, .cells #[slcV A00 a0.length, .int .u32 a1, .int .i64 r42, .string r43, .int .i64 r44, .int .i64 r45, slcV A56 r46.length, .int .u64 r47, .int .u64 r48, .bool r49, .int .i64 r50, .bool r51, .int .i64 r52, .int .i64 r53, .string r54] 62 (0, 0)), ((b1 + 1), .cells #[.int .i64 0, .int .i64 0, .slice none 0 0] 35 (0, 0)), ((b1 + 2), .cells #[.int .u64 0, .int .u64 0, .bool false, .int .i64 0, .bool false, .int .i64 0, .int .i64 0, .string (⟨#[]⟩ : ByteArray)] 29 (0, 0))]) (fun _ => []) (fun _ => by kernel_rfl) (fun _ => ?_)
          refine WP.seq ?_
          refine WP.region ?_
          refine WL.run 2 [] [6, 7, 8, 9, 11, 12, 20, 21, 22, 23, 24, 25, 26, 27, 28, 32] (fun _ => [(6, .pointer (some ⟨(b1 + 1), 0, none⟩)), (7, .pointer (some ⟨(b1 + 2), 0, none⟩)), (8, .int .i64 0), (9, .pointer (some ⟨b2, 0, none⟩)), (11, .int .i64 3), (12, .int .i64 4), (20, .agg #[.int .i64 1, .int .i64 2, .int .i64 3, .int .i64 4]), (21, .int .i64 3), (22, .bool true), (23, .int .i64 3), (24, .int .i64 4), (25, .pointer (some ⟨b2, 0, none⟩)), (26, .int .i64 3), (27, .bool r41), (28, .bool (!r41)), (32, .int .i64 3)]) (fun _ => [(b2, .cells #[slcV A00 a0.length, .int .u32 a1, .int .i64 r42, .string r43, .int .i64 r44, .int .i64 r45, slcV A56 r46.length, .int .u64 r47, .int .u64 r48, .bool r49, .int .i64 r50, .bool r51, .int .i64 r52, .int .i64 r53, .string r54] 62 (0, 0)), ((b1 + 1), .cells #[.int .i64 0, .int .i64 0, .slice none 0 0] 35 (0, 0)), ((b1 + 2), .cells #[.int .u64 0, .int .u64 0, .bool false, .int .i64 0, .bool false, .int .i64 0, .int .i64 0, .string (⟨#[]⟩ : ByteArray)] 29 (0, 0))]) (fun _ => []) (fun _ => by kernel_rfl) (fun _ => ?_)
          obtain ⟨⟨r58, r59, r60, r61, r62, r63, r64, r65, r66, r67, r68, r69, r70, r71⟩, h72, hM⟩ := bind_some hM
          dsimp only at hM
          refine WL.callX (F0 := [Row 3 api_Seg.encS api_Seg.inK A00 a0, Row 1 (pl (encI .u32)) noK A56 r46]) [] [] [true, false, false] (fun _ => _) [4, 0] (by kernel_rfl) (tunnel_opener_step_calls k b2 A00 A56 a0 a1 r42 r43 r44 r45 r46 r47 r48 r49 r50 r51 r52 r53 r54 3 _ h72) rfl rfl (by kernel_rfl) (by kernel_rfl) (fun _ => rfl) (fun A73 => ?_)
          refine WL.run 1 [] [6, 7, 8, 9, 11, 12, 20, 21, 22, 23, 24, 25, 26, 27, 28, 32] (fun _ => [(6, .pointer (some ⟨(b1 + 1), 0, none⟩)), (7, .pointer (some ⟨(b1 + 2), 0, none⟩)), (8, .int .i64 0), (9, .pointer (some ⟨b2, 0, none⟩)), (11, .int .i64 3), (12, .int .i64 4), (20, .agg #[.int .i64 1, .int .i64 2, .int .i64 3, .int .i64 4]), (21, .int .i64 3), (22, .bool true), (23, .int .i64 3), (24, .int .i64 4), (25, .pointer (some ⟨b2, 0, none⟩)), (26, .int .i64 3), (27, .bool r58), (28, .bool (!r58)), (32, .int .i64 3)]) (fun _ => [(b2, .cells #[slcV A00 a0.length, .int .u32 a1, .int .i64 r59, .string r60, .int .i64 r61, .int .i64 r62, slcV A73 r63.length, .int .u64 r64, .int .u64 r65, .bool r66, .int .i64 r67, .bool r68, .int .i64 r69, .int .i64 r70, .string r71] 62 (0, 0)), ((b1 + 1), .cells #[.int .i64 0, .int .i64 0, .slice none 0 0] 35 (0, 0)), ((b1 + 2), .cells #[.int .u64 0, .int .u64 0, .bool false, .int .i64 0, .bool false, .int .i64 0, .int .i64 0, .string (⟨#[]⟩ : ByteArray)] 29 (0, 0))]) (fun _ => []) (fun _ => by kernel_rfl) (fun _ => ?_)
          refine WP.done ?_
          refine WP.cond (!r58) rfl rfl (fun c74 => ?_) (fun c74 => ?_)
          · replace hM := cond_t hM c74
            refine WP.seq ?_
            refine WP.run [1, 1, 1, 2, 2, 2, 2, 2, 2, 2, 2] [6, 7, 8, 9, 11, 12, 20, 21, 22, 23, 24, 25, 26, 27, 28, 29, 30, 31, 32] (fun _ => [(6, .pointer (some ⟨(b1 + 1), 0, none⟩)), (7, .pointer (some ⟨(b1 + 2), 0, none⟩)), (8, .int .i64 4), (9, .pointer (some ⟨b2, 0, none⟩)), (11, .int .i64 3), (12, .int .i64 4), (20, .agg #[.int .i64 1, .int .i64 2, .int .i64 3, .int .i64 4]), (21, .int .i64 3), (22, .bool true), (23, .int .i64 3), (24, .int .i64 4), (25, .pointer (some ⟨b2, 0, none⟩)), (26, .int .i64 3), (27, .bool r58), (28, .bool (!r58)), (29, .agg #[.int .i64 0, .int .i64 0, .slice none 0 0]), (30, .agg #[.int .u64 0, .int .u64 0, .bool false, .int .i64 0, .bool false, .int .i64 0, .int .i64 0, .string (⟨#[]⟩ : ByteArray)]), (31, .int .i64 4), (32, .int .i64 3)]) (fun _ => [(b2, .cells #[slcV A00 a0.length, .int .u32 a1, .int .i64 r59, .string r60, .int .i64 r61, .int .i64 r62, slcV A73 r63.length, .int .u64 r64, .int .u64 r65, .bool r66, .int .i64 r67, .bool r68, .int .i64 r69, .int .i64 r70, .string r71] 62 (0, 0)), ((b1 + 1), .cells #[.int .i64 0, .int .i64 0, .slice none 0 0] 35 (0, 0)), ((b1 + 2), .cells #[.int .u64 0, .int .u64 0, .bool false, .int .i64 0, .bool false, .int .i64 0, .int .i64 0, .string (⟨#[]⟩ : ByteArray)] 29 (0, 0))]) (fun _ => [(b1 + 2), (b1 + 2), (b1 + 2), (b1 + 2), (b1 + 2), (b1 + 2), (b1 + 2), (b1 + 2), (b1 + 1), (b1 + 1), (b1 + 1)]) (fun _ => by kernel_rfl) (fun _ => ?_)
            obtain rfl := Option.some.inj hM
            exact WP.ret [1, 1, 1, 2, 2, 2, 2, 2, 2, 2, 2] [(b1 + 1), (b1 + 1), (b1 + 1), (b1 + 2), (b1 + 2), (b1 + 2), (b1 + 2), (b1 + 2), (b1 + 2), (b1 + 2), (b1 + 2)] (.tuple #[.agg #[.int .i64 0, .int .i64 0, slcV (SkL.nil (fun _ => ())) ([] : List Int).length], .agg #[.int .u64 0, .int .u64 0, .bool false, .int .i64 0, .bool false, .int .i64 0, .int .i64 0, .string (⟨#[]⟩ : ByteArray)], .int .i64 4]) (by kernel_rfl) (fun w' hw => ⟨(SkL.nil (fun _ => ())), rfl, (hw.pick [] (by kernel_rfl)).less (sub_ret [4] [5] (by kernel_rfl) (by kernel_rfl))⟩)
          · replace hM := cond_f hM c74
            refine WP.skip ?_
            refine WP.leave ?_
            refine WP.run [] [6, 7, 8, 9, 11, 12, 20, 21, 22, 23, 24, 25, 26, 27, 28, 32] (fun _ => [(6, .pointer (some ⟨(b1 + 1), 0, none⟩)), (7, .pointer (some ⟨(b1 + 2), 0, none⟩)), (8, .int .i64 0), (9, .pointer (some ⟨b2, 0, none⟩)), (11, .int .i64 3), (12, .int .i64 4), (20, .agg #[.int .i64 1, .int .i64 2, .int .i64 3, .int .i64 4]), (21, .int .i64 4), (22, .bool true), (23, .int .i64 3), (24, .int .i64 4), (25, .pointer (some ⟨b2, 0, none⟩)), (26, .int .i64 3), (27, .bool r58), (28, .bool (!r58)), (32, .int .i64 4)]) (fun _ => [(b2, .cells #[slcV A00 a0.length, .int .u32 a1, .int .i64 r59, .string r60, .int .i64 r61, .int .i64 r62, slcV A73 r63.length, .int .u64 r64, .int .u64 r65, .bool r66, .int .i64 r67, .bool r68, .int .i64 r69, .int .i64 r70, .string r71] 62 (0, 0)), ((b1 + 1), .cells #[.int .i64 0, .int .i64 0, .slice none 0 0] 35 (0, 0)), ((b1 + 2), .cells #[.int .u64 0, .int .u64 0, .bool false, .int .i64 0, .bool false, .int .i64 0, .int .i64 0, .string (⟨#[]⟩ : ByteArray)] 29 (0, 0))]) (fun _ => []) (fun _ => by kernel_rfl) (fun _ => ?_)
            refine WP.round ?_
            refine WP.seq ?_
            refine WP.run [] [6, 7, 8, 9, 11, 12, 20, 21, 22, 23, 24, 25, 26, 27, 28, 32] (fun _ => [(6, .pointer (some ⟨(b1 + 1), 0, none⟩)), (7, .pointer (some ⟨(b1 + 2), 0, none⟩)), (8, .int .i64 0), (9, .pointer (some ⟨b2, 0, none⟩)), (11, .int .i64 3), (12, .int .i64 4), (20, .agg #[.int .i64 1, .int .i64 2, .int .i64 3, .int .i64 4]), (21, .int .i64 4), (22, .bool false), (23, .int .i64 3), (24, .int .i64 4), (25, .pointer (some ⟨b2, 0, none⟩)), (26, .int .i64 3), (27, .bool r58), (28, .bool (!r58)), (32, .int .i64 4)]) (fun _ => [(b2, .cells #[slcV A00 a0.length, .int .u32 a1, .int .i64 r59, .string r60, .int .i64 r61, .int .i64 r62, slcV A73 r63.length, .int .u64 r64, .int .u64 r65, .bool r66, .int .i64 r67, .bool r68, .int .i64 r69, .int .i64 r70, .string r71] 62 (0, 0)), ((b1 + 1), .cells #[.int .i64 0, .int .i64 0, .slice none 0 0] 35 (0, 0)), ((b1 + 2), .cells #[.int .u64 0, .int .u64 0, .bool false, .int .i64 0, .bool false, .int .i64 0, .int .i64 0, .string (⟨#[]⟩ : ByteArray)] 29 (0, 0))]) (fun _ => []) (fun _ => by kernel_rfl) (fun _ => ?_)
            refine WP.seq ?_
            refine WP.no rfl rfl ?_
            refine WP.exit rfl ?_
            exact WP.sub [6, 7, 8, 9] (by kernel_rfl) (WP.pick [1, 2, 0] (by kernel_rfl) (by kernel_rfl) (WP.lessF [0, 4, 5] (by kernel_rfl) (K1 (0, r59, r60, r61, r62, r63, A73, r64, r65, r66, r67, r68, r69, r70, r71) hM)))

end Go.Proofs.YtbodofjnfmjbpaaGreatDoor

namespace Go.Proofs.YtbodofjnfmjbpaaGreatDoor
open Go Eng
set_option linter.unusedVariables false
set_option linter.unusedSimpArgs false

/-! ### gangway/ether.tag: function 63 -/
def ether_tag.f (a0 : api_Tag) : Option (Bool) :=
  bif !a0.Has then
    some ((a0.Has == false) && ((a0.Pri == 0) && ((a0.Dei == false) && ((a0.Vid == 0) && true))))
  else
    some ((((decide (a0.Pri ≥ 0)) && (decide (a0.Pri < 8))) && (decide (a0.Vid ≥ 0))) && (decide (a0.Vid < 4096)))

set_option maxRecDepth 100000 in
theorem ether_tag_calls (a0 : api_Tag) (r : Bool) (h : ether_tag.f a0 = some r) : Pure Tryz.prog Glob 63 #[.agg #[.bool a0.Has, .int .i64 a0.Pri, .bool a0.Dei, .int .i64 a0.Vid]] (.bool r) := by
  intro w Z hS
  refine calls_of (args := [.agg #[.bool a0.Has, .int .i64 a0.Pri, .bool a0.Dei, .int .i64 a0.Vid]]) (L := [(0, .agg #[.bool a0.Has, .int .i64 a0.Pri, .bool a0.Dei, .int .i64 a0.Vid])]) (N := 27) (S := Sat w Z [] [] Glob) Tryz.func63 rfl rfl (Nat.le_of_ble_eq_true rfl) rfl hS ?_
  have hM := h
  clear h hS
  unfold ether_tag.f at hM
  refine WP.seq ?_
  refine WP.run [] [1, 2] (fun b1 => [(1, .pointer (some ⟨b1, 0, none⟩)), (2, .bool false)]) (fun b1 => [(b1, .cells #[.bool a0.Has, .int .i64 a0.Pri, .bool a0.Dei, .int .i64 a0.Vid] 27 (0, 0))]) (fun b1 => []) (fun b1 => by kernel_rfl) (fun b1 => ?_)
  refine WP.seq ?_
  refine WP.seq ?_
  refine WP.run [0] [1, 2, 5] (fun _ => [(1, .pointer (some ⟨b1, 0, none⟩)), (2, .bool false), (5, .bool (!a0.Has))]) (fun _ => [(b1, .cells #[.bool a0.Has, .int .i64 a0.Pri, .bool a0.Dei, .int .i64 a0.Vid] 27 (0, 0))]) (fun _ => [b1]) (fun _ => by kernel_rfl) (fun _ => ?_)
  refine WP.cond (!a0.Has) rfl rfl (fun c2 => ?_) (fun c2 => ?_)
  · replace hM := cond_t hM c2
    refine WP.seq ?_
    refine WP.region ?_
    refine WL.run 2 [0, 0, 0, 0] [1, 2, 6, 7] (fun _ => [(1, .pointer (some ⟨b1, 0, none⟩)), (2, .bool false), (6, .agg #[.bool a0.Has, .int .i64 a0.Pri, .bool a0.Dei, .int .i64 a0.Vid]), (7, .agg #[.bool false, .int .i64 0, .bool false, .int .i64 0])]) (fun _ => [(b1, .cells #[.bool a0.Has, .int .i64 a0.Pri, .bool a0.Dei, .int .i64 a0.Vid] 27 (0, 0))]) (fun _ => [b1, b1, b1, b1]) (fun _ => by kernel_rfl) (fun _ => ?_)
    refine WL.val (fun _ => run_structEq (xs := #[.bool a0.Has, .int .i64 a0.Pri, .bool a0.Dei, .int .i64 a0.Vid]) (ys := #[.bool false, .int .i64 0, .bool false, .int .i64 0]) (b := ((a0.Has == false) && ((a0.Pri == 0) && ((a0.Dei == false) && ((a0.Vid == 0) && true))))) (by kernel_rfl) (by kernel_rfl) (by kernel_rfl) (by kernel_rfl)) (by kernel_rfl) (by kernel_rfl) rfl ?_
    refine WL.run 1 [] [1, 2] (fun _ => [(1, .pointer (some ⟨b1, 0, none⟩)), (2, .bool ((a0.Has == false) && ((a0.Pri == 0) && ((a0.Dei == false) && ((a0.Vid == 0) && true)))))]) (fun _ => [(b1, .cells #[.bool a0.Has, .int .i64 a0.Pri, .bool a0.Dei, .int .i64 a0.Vid] 27 (0, 0))]) (fun _ => []) (fun _ => by kernel_rfl) (fun _ => ?_)
    refine WP.done ?_
    obtain rfl := Option.some.inj hM
    exact WP.ret [] [] (.bool ((a0.Has == false) && ((a0.Pri == 0) && ((a0.Dei == false) && ((a0.Vid == 0) && true))))) (by kernel_rfl) (fun w' hw => ⟨rfl, hw.pick [] rfl⟩)
  · replace hM := cond_f hM c2
    refine WP.skip ?_
    refine WP.seq ?_
    refine WP.region ?_
    refine WL.run 4 [0] [1, 2, 12] (fun _ => [(1, .pointer (some ⟨b1, 0, none⟩)), (2, .bool false), (12, .bool (decide (a0.Pri ≥ 0)))]) (fun _ => [(b1, .cells #[.bool a0.Has, .int .i64 a0.Pri, .bool a0.Dei, .int .i64 a0.Vid] 27 (0, 0))]) (fun _ => [b1]) (fun _ => by kernel_rfl) (fun _ => ?_)
    refine WL.sub [1, 2, 12] (L' := [(1, .pointer (some ⟨b1, 0, none⟩)), (2, .bool false), (12, .bool (decide (a0.Pri ≥ 0)))]) (by kernel_rfl) ?_
    refine WL.both (fun b' => [(1, .pointer (some ⟨b1, 0, none⟩)), (2, .bool false), (12, .bool b')]) (decide (a0.Pri ≥ 0)) 4 [0] [] [1, 2, 16] (fun b' => [(1, .pointer (some ⟨b1, 0, none⟩)), (2, .bool false), (16, .bool (b' && (decide (a0.Pri < 8))))]) [b1] [] (fun _ => by kernel_rfl) (fun _ => by kernel_rfl) ?_
    refine WL.run 1 [] [1, 2, 17] (fun _ => [(1, .pointer (some ⟨b1, 0, none⟩)), (2, .bool false), (17, .bool ((decide (a0.Pri ≥ 0)) && (decide (a0.Pri < 8))))]) (fun _ => [(b1, .cells #[.bool a0.Has, .int .i64 a0.Pri, .bool a0.Dei, .int .i64 a0.Vid] 27 (0, 0))]) (fun _ => []) (fun _ => by kernel_rfl) (fun _ => ?_)
    refine WL.sub [1, 2, 17] (L' := [(1, .pointer (some ⟨b1, 0, none⟩)), (2, .bool false), (17, .bool ((decide (a0.Pri ≥ 0)) && (decide (a0.Pri < 8))))]) (by kernel_rfl) ?_
    refine WL.both (fun b' => [(1, .pointer (some ⟨b1, 0, none⟩)), (2, .bool false), (17, .bool b')]) ((decide (a0.Pri ≥ 0)) && (decide (a0.Pri < 8))) 4 [0] [] [1, 2, 21] (fun b' => [(1, .pointer (some ⟨b1, 0, none⟩)), (2, .bool false), (21, .bool (b' && (decide (a0.Vid ≥ 0))))]) [b1] [] (fun _ => by kernel_rfl) (fun _ => by kernel_rfl) ?_
    refine WL.run 1 [] [1, 2, 22] (fun _ => [(1, .pointer (some ⟨b1, 0, none⟩)), (2, .bool false), (22, .bool (((decide (a0.Pri ≥ 0)) && (decide (a0.Pri < 8))) && (decide (a0.Vid ≥ 0))))]) (fun _ => [(b1, .cells #[.bool a0.Has, .int .i64 a0.Pri, .bool a0.Dei, .int .i64 a0.Vid] 27 (0, 0))]) (fun _ => []) (fun _ => by kernel_rfl) (fun _ => ?_)
    refine WL.sub [1, 2, 22] (L' := [(1, .pointer (some ⟨b1, 0, none⟩)), (2, .bool false), (22, .bool (((decide (a0.Pri ≥ 0)) && (decide (a0.Pri < 8))) && (decide (a0.Vid ≥ 0))))]) (by kernel_rfl) ?_
    refine WL.both (fun b' => [(1, .pointer (some ⟨b1, 0, none⟩)), (2, .bool false), (22, .bool b')]) (((decide (a0.Pri ≥ 0)) && (decide (a0.Pri < 8))) && (decide (a0.Vid ≥ 0))) 4 [0] [] [2, 26] (fun b' => [(2, .bool false), (26, .bool (b' && (decide (a0.Vid < 4096))))]) [b1] [] (fun _ => by kernel_rfl) (fun _ => by kernel_rfl) ?_
    refine WL.run 1 [] [2] (fun _ => [(2, .bool ((((decide (a0.Pri ≥ 0)) && (decide (a0.Pri < 8))) && (decide (a0.Vid ≥ 0))) && (decide (a0.Vid < 4096))))]) (fun _ => [(b1, .cells #[.bool a0.Has, .int .i64 a0.Pri, .bool a0.Dei, .int .i64 a0.Vid] 27 (0, 0))]) (fun _ => []) (fun _ => by kernel_rfl) (fun _ => ?_)
    refine WP.done ?_
    refine WP.keep [false] (by kernel_rfl : _ = []) ?_
    obtain rfl := Option.some.inj hM
    exact WP.ret [] [] (.bool ((((decide (a0.Pri ≥ 0)) && (decide (a0.Pri < 8))) && (decide (a0.Vid ≥ 0))) && (decide (a0.Vid < 4096)))) (by kernel_rfl) (fun w' hw => ⟨rfl, hw.pick [] rfl⟩)

end Go.Proofs.YtbodofjnfmjbpaaGreatDoor

namespace Go.Proofs.YtbodofjnfmjbpaaGreatDoor
open Go Eng
set_option linter.unusedVariables false
set_option linter.unusedSimpArgs false

/-! ### gangway/ether.size: function 64 -/
def ether_size.k1 (x3 : Int) : Option (Int) :=
  some x3

def ether_size.f (a0 : api_Frame) : Option (Int) :=
  bif a0.Tag.Has then
    ether_size.k1 (i64 ((i64 (14 + (a0.Body.size : Int))) + 4))
  else
    ether_size.k1 (i64 (14 + (a0.Body.size : Int)))

set_option maxRecDepth 100000 in
theorem ether_size_calls (a0 : api_Frame) (r : Int) (h : ether_size.f a0 = some r) : Pure Tryz.prog Glob 64 #[.agg #[.int .u64 a0.Dst, .int .u64 a0.Src, .bool a0.Tag.Has, .int .i64 a0.Tag.Pri, .bool a0.Tag.Dei, .int .i64 a0.Tag.Vid, .int .i64 a0.Type_, .string a0.Body]] (.int .i64 r) := by
  intro w Z hS
  refine calls_of (args := [.agg #[.int .u64 a0.Dst, .int .u64 a0.Src, .bool a0.Tag.Has, .int .i64 a0.Tag.Pri, .bool a0.Tag.Dei, .int .i64 a0.Tag.Vid, .int .i64 a0.Type_, .string a0.Body]]) (L := [(0, .agg #[.int .u64 a0.Dst, .int .u64 a0.Src, .bool a0.Tag.Has, .int .i64 a0.Tag.Pri, .bool a0.Tag.Dei, .int .i64 a0.Tag.Vid, .int .i64 a0.Type_, .string a0.Body])]) (N := 14) (S := Sat w Z [] [] Glob) Tryz.func64 rfl rfl (Nat.le_of_ble_eq_true rfl) rfl hS ?_
  have hM := h
  clear h hS
  unfold ether_size.f at hM
  refine WP.seq ?_
  refine WP.run [] [1, 2] (fun b1 => [(1, .pointer (some ⟨b1, 0, none⟩)), (2, .int .i64 0)]) (fun b1 => [(b1, .cells #[.int .u64 a0.Dst, .int .u64 a0.Src, .bool a0.Tag.Has, .int .i64 a0.Tag.Pri, .bool a0.Tag.Dei, .int .i64 a0.Tag.Vid, .int .i64 a0.Type_, .string a0.Body] 29 (0, 0))]) (fun b1 => []) (fun b1 => by kernel_rfl) (fun b1 => ?_)
  refine WP.seq ?_
  refine WP.run [0] [1, 2, 3] (fun _ => [(1, .pointer (some ⟨b1, 0, none⟩)), (2, .int .i64 0), (3, .int .i64 (i64 (14 + (a0.Body.size : Int))))]) (fun _ => [(b1, .cells #[.int .u64 a0.Dst, .int .u64 a0.Src, .bool a0.Tag.Has, .int .i64 a0.Tag.Pri, .bool a0.Tag.Dei, .int .i64 a0.Tag.Vid, .int .i64 a0.Type_, .string a0.Body] 29 (0, 0))]) (fun _ => [b1]) (fun _ => by kernel_rfl) (fun _ => ?_)
  refine WP.seqJoin (σ := Int) (fun st => ether_size.k1 st = some r) (fun st => [(2, .int .i64 0), (3, .int .i64 st)]) (fun st => Sat w Z [] [] Glob) (fun st hM => ?_) (fun K1 => ?_)
  ·
    obtain ⟨x3, rfl⟩ : ∃ y, y = st := ⟨st, rfl⟩
    replace hM : ether_size.k1 x3 = some r := hM
    unfold ether_size.k1 at hM
    show WP _ _ _ _ _ [(2, .int .i64 0), (3, .int .i64 x3)] (Sat w Z [] [] Glob)
    refine WP.seq ?_
    refine WP.run [] [2] (fun _ => [(2, .int .i64 x3)]) (fun _ => []) (fun _ => []) (fun _ => by kernel_rfl) (fun _ => ?_)
    obtain rfl := Option.some.inj hM
    exact WP.ret [] [] (.int .i64 x3) (by kernel_rfl) (fun w' hw => ⟨rfl, hw.pick [] rfl⟩)
  ·
    refine WP.seq ?_
    refine WP.run [0] [2, 3, 10] (fun _ => [(2, .int .i64 0), (3, .int .i64 (i64 (14 + (a0.Body.size : Int)))), (10, .bool a0.Tag.Has)]) (fun _ => [(b1, .cells #[.int .u64 a0.Dst, .int .u64 a0.Src, .bool a0.Tag.Has, .int .i64 a0.Tag.Pri, .bool a0.Tag.Dei, .int .i64 a0.Tag.Vid, .int .i64 a0.Type_, .string a0.Body] 29 (0, 0))]) (fun _ => [b1]) (fun _ => by kernel_rfl) (fun _ => ?_)
    refine WP.keep [false] (by kernel_rfl : _ = []) ?_
    refine WP.cond a0.Tag.Has rfl rfl (fun c2 => ?_) (fun c2 => ?_)
    · replace hM := cond_t hM c2
      refine WP.run [] [2, 3] (fun _ => [(2, .int .i64 0), (3, .int .i64 (i64 ((i64 (14 + (a0.Body.size : Int))) + 4)))]) (fun _ => []) (fun _ => []) (fun _ => by kernel_rfl) (fun _ => ?_)
      exact WP.sub [2, 3] (by kernel_rfl) (WP.pick [] (by kernel_rfl) (by kernel_rfl) (K1 (i64 ((i64 (14 + (a0.Body.size : Int))) + 4)) hM))
    · replace hM := cond_f hM c2
      refine WP.skip ?_
      exact WP.sub [2, 3] (by kernel_rfl) (WP.pick [] (by kernel_rfl) (by kernel_rfl) (K1 (i64 (14 + (a0.Body.size : Int))) hM))

end Go.Proofs.YtbodofjnfmjbpaaGreatDoor

namespace Go.Proofs.YtbodofjnfmjbpaaGreatDoor
open Go Eng
set_option linter.unusedVariables false
set_option linter.unusedSimpArgs false

/-! ### gangway/ether.Check: function 35 -/
def ether_Check.k1 (a0 : api_Frame) (x7 : Bool) : Option (Int) :=
  bif x7 then
    some 41
  else
    bif ((a0.Type_ == 0) && (decide ((a0.Body.size : Int) > 1500))) then
      some 40
    else
      (ether_size.f a0).bind fun r10 =>
      bif decide (r10 > 1600) then
        some 41
      else
        some 0

def ether_Check.k2 (a0 : api_Frame) (x5 : Bool) : Option (Int) :=
  bif x5 then
    ether_Check.k1 a0 true
  else
    ether_Check.k1 a0 ((a0.Type_ != 0) && (!(((decide (a0.Type_ ≥ 1536)) && (decide (a0.Type_ ≤ 65535))) && (a0.Type_ != 33024))))

def ether_Check.f (a0 : api_Frame) : Option (Int) :=
  bif ((decide (a0.Dst ≥ 281474976710656)) || (decide (a0.Src ≥ 281474976710656))) then
    ether_Check.k2 a0 true
  else
    (ether_tag.f a0.Tag).bind fun r3 =>
    ether_Check.k2 a0 (!r3)

set_option maxRecDepth 100000 in
theorem ether_Check_calls (a0 : api_Frame) (r : Int) (h : ether_Check.f a0 = some r) : Pure Tryz.prog Glob 35 #[.agg #[.int .u64 a0.Dst, .int .u64 a0.Src, .bool a0.Tag.Has, .int .i64 a0.Tag.Pri, .bool a0.Tag.Dei, .int .i64 a0.Tag.Vid, .int .i64 a0.Type_, .string a0.Body]] (.int .i64 r) := by
  intro w Z hS
  refine calls_of (args := [.agg #[.int .u64 a0.Dst, .int .u64 a0.Src, .bool a0.Tag.Has, .int .i64 a0.Tag.Pri, .bool a0.Tag.Dei, .int .i64 a0.Tag.Vid, .int .i64 a0.Type_, .string a0.Body]]) (L := [(0, .agg #[.int .u64 a0.Dst, .int .u64 a0.Src, .bool a0.Tag.Has, .int .i64 a0.Tag.Pri, .bool a0.Tag.Dei, .int .i64 a0.Tag.Vid, .int .i64 a0.Type_, .string a0.Body])]) (N := 55) (S := Sat w Z [] [] Glob) Tryz.func35 rfl rfl (Nat.le_of_ble_eq_true rfl) rfl hS ?_
  have hM := h
  clear h hS
  unfold ether_Check.f at hM
  refine WP.seq ?_
  refine WP.run [] [1, 2] (fun b1 => [(1, .pointer (some ⟨b1, 0, none⟩)), (2, .int .i64 0)]) (fun b1 => [(b1, .cells #[.int .u64 a0.Dst, .int .u64 a0.Src, .bool a0.Tag.Has, .int .i64 a0.Tag.Pri, .bool a0.Tag.Dei, .int .i64 a0.Tag.Vid, .int .i64 a0.Type_, .string a0.Body] 29 (0, 0))]) (fun b1 => []) (fun b1 => by kernel_rfl) (fun b1 => ?_)
  refine WP.seq ?_
  refine WP.region ?_
  refine WL.run 4 [0] [1, 2, 7] (fun _ => [(1, .pointer (some ⟨b1, 0, none⟩)), (2, .int .i64 0), (7, .bool (decide (a0.Type_ ≥ 1536)))]) (fun _ => [(b1, .cells #[.int .u64 a0.Dst, .int .u64 a0.Src, .bool a0.Tag.Has, .int .i64 a0.Tag.Pri, .bool a0.Tag.Dei, .int .i64 a0.Tag.Vid, .int .i64 a0.Type_, .string a0.Body] 29 (0, 0))]) (fun _ => [b1]) (fun _ => by kernel_rfl) (fun _ => ?_)
  refine WL.sub [1, 2, 7] (L' := [(1, .pointer (some ⟨b1, 0, none⟩)), (2, .int .i64 0), (7, .bool (decide (a0.Type_ ≥ 1536)))]) (by kernel_rfl) ?_
  refine WL.both (fun b' => [(1, .pointer (some ⟨b1, 0, none⟩)), (2, .int .i64 0), (7, .bool b')]) (decide (a0.Type_ ≥ 1536)) 4 [0] [] [1, 2, 11] (fun b' => [(1, .pointer (some ⟨b1, 0, none⟩)), (2, .int .i64 0), (11, .bool (b' && (decide (a0.Type_ ≤ 65535))))]) [b1] [] (fun _ => by kernel_rfl) (fun _ => by kernel_rfl) ?_
  refine WL.run 1 [] [1, 2, 12] (fun _ => [(1, .pointer (some ⟨b1, 0, none⟩)), (2, .int .i64 0), (12, .bool ((decide (a0.Type_ ≥ 1536)) && (decide (a0.Type_ ≤ 65535))))]) (fun _ => [(b1, .cells #[.int .u64 a0.Dst, .int .u64 a0.Src, .bool a0.Tag.Has, .int .i64 a0.Tag.Pri, .bool a0.Tag.Dei, .int .i64 a0.Tag.Vid, .int .i64 a0.Type_, .string a0.Body] 29 (0, 0))]) (fun _ => []) (fun _ => by kernel_rfl) (fun _ => ?_)
  refine WL.sub [1, 2, 12] (L' := [(1, .pointer (some ⟨b1, 0, none⟩)), (2, .int .i64 0), (12, .bool ((decide (a0.Type_ ≥ 1536)) && (decide (a0.Type_ ≤ 65535))))]) (by kernel_rfl) ?_
  refine WL.both (fun b' => [(1, .pointer (some ⟨b1, 0, none⟩)), (2, .int .i64 0), (12, .bool b')]) ((decide (a0.Type_ ≥ 1536)) && (decide (a0.Type_ ≤ 65535))) 4 [0] [] [1, 2, 16] (fun b' => [(1, .pointer (some ⟨b1, 0, none⟩)), (2, .int .i64 0), (16, .bool (b' && (a0.Type_ != 33024)))]) [b1] [] (fun _ => by kernel_rfl) (fun _ => by kernel_rfl) ?_
  refine WL.run 1 [] [1, 2, 3] (fun _ => [(1, .pointer (some ⟨b1, 0, none⟩)), (2, .int .i64 0), (3, .bool (((decide (a0.Type_ ≥ 1536)) && (decide (a0.Type_ ≤ 65535))) && (a0.Type_ != 33024)))]) (fun _ => [(b1, .cells #[.int .u64 a0.Dst, .int .u64 a0.Src, .bool a0.Tag.Has, .int .i64 a0.Tag.Pri, .bool a0.Tag.Dei, .int .i64 a0.Tag.Vid, .int .i64 a0.Type_, .string a0.Body] 29 (0, 0))]) (fun _ => []) (fun _ => by kernel_rfl) (fun _ => ?_)
  refine WP.done ?_
  refine WP.seq ?_
  refine WP.block ?_
  refine WP.seq ?_
  refine WP.region ?_
  refine WL.run 4 [0] [1, 2, 3, 21] (fun _ => [(1, .pointer (some ⟨b1, 0, none⟩)), (2, .int .i64 0), (3, .bool (((decide (a0.Type_ ≥ 1536)) && (decide (a0.Type_ ≤ 65535))) && (a0.Type_ != 33024))), (21, .bool (decide (a0.Dst ≥ 281474976710656)))]) (fun _ => [(b1, .cells #[.int .u64 a0.Dst, .int .u64 a0.Src, .bool a0.Tag.Has, .int .i64 a0.Tag.Pri, .bool a0.Tag.Dei, .int .i64 a0.Tag.Vid, .int .i64 a0.Type_, .string a0.Body] 29 (0, 0))]) (fun _ => [b1]) (fun _ => by kernel_rfl) (fun _ => ?_)
  refine WL.sub [1, 2, 3, 21] (L' := [(1, .pointer (some ⟨b1, 0, none⟩)), (2, .int .i64 0), (3, .bool (((decide (a0.Type_ ≥ 1536)) && (decide (a0.Type_ ≤ 65535))) && (a0.Type_ != 33024))), (21, .bool (decide (a0.Dst ≥ 281474976710656)))]) (by kernel_rfl) ?_
  refine WL.both (fun b' => [(1, .pointer (some ⟨b1, 0, none⟩)), (2, .int .i64 0), (3, .bool (((decide (a0.Type_ ≥ 1536)) && (decide (a0.Type_ ≤ 65535))) && (a0.Type_ != 33024))), (21, .bool b')]) (decide (a0.Dst ≥ 281474976710656)) 4 [] [0] [1, 2, 3, 25] (fun b' => [(1, .pointer (some ⟨b1, 0, none⟩)), (2, .int .i64 0), (3, .bool (((decide (a0.Type_ ≥ 1536)) && (decide (a0.Type_ ≤ 65535))) && (a0.Type_ != 33024))), (25, .bool (b' || (decide (a0.Src ≥ 281474976710656))))]) [] [b1] (fun _ => by kernel_rfl) (fun _ => by kernel_rfl) ?_
  refine WL.run 1 [] [1, 2, 3, 26] (fun _ => [(1, .pointer (some ⟨b1, 0, none⟩)), (2, .int .i64 0), (3, .bool (((decide (a0.Type_ ≥ 1536)) && (decide (a0.Type_ ≤ 65535))) && (a0.Type_ != 33024))), (26, .bool ((decide (a0.Dst ≥ 281474976710656)) || (decide (a0.Src ≥ 281474976710656))))]) (fun _ => [(b1, .cells #[.int .u64 a0.Dst, .int .u64 a0.Src, .bool a0.Tag.Has, .int .i64 a0.Tag.Pri, .bool a0.Tag.Dei, .int .i64 a0.Tag.Vid, .int .i64 a0.Type_, .string a0.Body] 29 (0, 0))]) (fun _ => []) (fun _ => by kernel_rfl) (fun _ => ?_)
  refine WL.sub [1, 2, 3, 26] (L' := [(1, .pointer (some ⟨b1, 0, none⟩)), (2, .int .i64 0), (3, .bool (((decide (a0.Type_ ≥ 1536)) && (decide (a0.Type_ ≤ 65535))) && (a0.Type_ != 33024))), (26, .bool ((decide (a0.Dst ≥ 281474976710656)) || (decide (a0.Src ≥ 281474976710656))))]) (by kernel_rfl) ?_
  refine WL.join (σ := Bool) 5 (fun st => ether_Check.k2 a0 st = some r) (fun st => [(1, .pointer (some ⟨b1, 0, none⟩)), (2, .int .i64 0), (3, .bool (((decide (a0.Type_ ≥ 1536)) && (decide (a0.Type_ ≤ 65535))) && (a0.Type_ != 33024))), (31, .bool st)]) (fun st => Sat w Z [(b1, .cells #[.int .u64 a0.Dst, .int .u64 a0.Src, .bool a0.Tag.Has, .int .i64 a0.Tag.Pri, .bool a0.Tag.Dei, .int .i64 a0.Tag.Vid, .int .i64 a0.Type_, .string a0.Body] 29 (0, 0))] [] Glob) (fun st hM => ?_) (fun K2 => ?_)
  ·
    obtain ⟨x5, rfl⟩ : ∃ y, y = st := ⟨st, rfl⟩
    replace hM : ether_Check.k2 a0 x5 = some r := hM
    unfold ether_Check.k2 at hM
    show WL _ _ _ _ _ [(1, .pointer (some ⟨b1, 0, none⟩)), (2, .int .i64 0), (3, .bool (((decide (a0.Type_ ≥ 1536)) && (decide (a0.Type_ ≤ 65535))) && (a0.Type_ != 33024))), (31, .bool x5)] (Sat w Z [(b1, .cells #[.int .u64 a0.Dst, .int .u64 a0.Src, .bool a0.Tag.Has, .int .i64 a0.Tag.Pri, .bool a0.Tag.Dei, .int .i64 a0.Tag.Vid, .int .i64 a0.Type_, .string a0.Body] 29 (0, 0))] [] Glob)
    refine WL.run 1 [] [1, 2, 3, 32] (fun _ => [(1, .pointer (some ⟨b1, 0, none⟩)), (2, .int .i64 0), (3, .bool (((decide (a0.Type_ ≥ 1536)) && (decide (a0.Type_ ≤ 65535))) && (a0.Type_ != 33024))), (32, .bool x5)]) (fun _ => [(b1, .cells #[.int .u64 a0.Dst, .int .u64 a0.Src, .bool a0.Tag.Has, .int .i64 a0.Tag.Pri, .bool a0.Tag.Dei, .int .i64 a0.Tag.Vid, .int .i64 a0.Type_, .string a0.Body] 29 (0, 0))]) (fun _ => []) (fun _ => by kernel_rfl) (fun _ => ?_)
    refine WL.sub [1, 2, 3, 32] (L' := [(1, .pointer (some ⟨b1, 0, none⟩)), (2, .int .i64 0), (3, .bool (((decide (a0.Type_ ≥ 1536)) && (decide (a0.Type_ ≤ 65535))) && (a0.Type_ != 33024))), (32, .bool x5)]) (by kernel_rfl) ?_
    refine WL.join (σ := Bool) 8 (fun st => ether_Check.k1 a0 st = some r) (fun st => [(1, .pointer (some ⟨b1, 0, none⟩)), (2, .int .i64 0), (40, .bool st)]) (fun st => Sat w Z [(b1, .cells #[.int .u64 a0.Dst, .int .u64 a0.Src, .bool a0.Tag.Has, .int .i64 a0.Tag.Pri, .bool a0.Tag.Dei, .int .i64 a0.Tag.Vid, .int .i64 a0.Type_, .string a0.Body] 29 (0, 0))] [] Glob) (fun st hM => ?_) (fun K1 => ?_)
    ·
      obtain ⟨x7, rfl⟩ : ∃ y, y = st := ⟨st, rfl⟩
      replace hM : ether_Check.k1 a0 x7 = some r := hM
      unfold ether_Check.k1 at hM
      show WL _ _ _ _ _ [(1, .pointer (some ⟨b1, 0, none⟩)), (2, .int .i64 0), (40, .bool x7)] (Sat w Z [(b1, .cells #[.int .u64 a0.Dst, .int .u64 a0.Src, .bool a0.Tag.Has, .int .i64 a0.Tag.Pri, .bool a0.Tag.Dei, .int .i64 a0.Tag.Vid, .int .i64 a0.Type_, .string a0.Body] 29 (0, 0))] [] Glob)
      refine WL.run 1 [] [1, 2, 17] (fun _ => [(1, .pointer (some ⟨b1, 0, none⟩)), (2, .int .i64 0), (17, .bool x7)]) (fun _ => [(b1, .cells #[.int .u64 a0.Dst, .int .u64 a0.Src, .bool a0.Tag.Has, .int .i64 a0.Tag.Pri, .bool a0.Tag.Dei, .int .i64 a0.Tag.Vid, .int .i64 a0.Type_, .string a0.Body] 29 (0, 0))]) (fun _ => []) (fun _ => by kernel_rfl) (fun _ => ?_)
      refine WP.done ?_
      refine WP.cond x7 rfl rfl (fun c8 => ?_) (fun c8 => ?_)
      · replace hM := cond_t hM c8
        refine WP.seq ?_
        refine WP.run [] [2] (fun _ => [(2, .int .i64 41)]) (fun _ => [(b1, .cells #[.int .u64 a0.Dst, .int .u64 a0.Src, .bool a0.Tag.Has, .int .i64 a0.Tag.Pri, .bool a0.Tag.Dei, .int .i64 a0.Tag.Vid, .int .i64 a0.Type_, .string a0.Body] 29 (0, 0))]) (fun _ => []) (fun _ => by kernel_rfl) (fun _ => ?_)
        refine WP.keep [false] (by kernel_rfl : _ = []) ?_
        obtain rfl := Option.some.inj hM
        exact WP.ret [] [] (.int .i64 41) (by kernel_rfl) (fun w' hw => ⟨rfl, hw.pick [] rfl⟩)
      · replace hM := cond_f hM c8
        refine WP.seq ?_
        refine WP.region ?_
        refine WL.run 4 [0] [1, 2, 45] (fun _ => [(1, .pointer (some ⟨b1, 0, none⟩)), (2, .int .i64 0), (45, .bool (a0.Type_ == 0))]) (fun _ => [(b1, .cells #[.int .u64 a0.Dst, .int .u64 a0.Src, .bool a0.Tag.Has, .int .i64 a0.Tag.Pri, .bool a0.Tag.Dei, .int .i64 a0.Tag.Vid, .int .i64 a0.Type_, .string a0.Body] 29 (0, 0))]) (fun _ => [b1]) (fun _ => by kernel_rfl) (fun _ => ?_)
        refine WL.sub [1, 2, 45] (L' := [(1, .pointer (some ⟨b1, 0, none⟩)), (2, .int .i64 0), (45, .bool (a0.Type_ == 0))]) (by kernel_rfl) ?_
        refine WL.both (fun b' => [(1, .pointer (some ⟨b1, 0, none⟩)), (2, .int .i64 0), (45, .bool b')]) (a0.Type_ == 0) 5 [0] [] [1, 2, 50] (fun b' => [(1, .pointer (some ⟨b1, 0, none⟩)), (2, .int .i64 0), (50, .bool (b' && (decide ((a0.Body.size : Int) > 1500))))]) [b1] [] (fun _ => by kernel_rfl) (fun _ => by kernel_rfl) ?_
        refine WL.run 1 [] [1, 2, 41] (fun _ => [(1, .pointer (some ⟨b1, 0, none⟩)), (2, .int .i64 0), (41, .bool ((a0.Type_ == 0) && (decide ((a0.Body.size : Int) > 1500))))]) (fun _ => [(b1, .cells #[.int .u64 a0.Dst, .int .u64 a0.Src, .bool a0.Tag.Has, .int .i64 a0.Tag.Pri, .bool a0.Tag.Dei, .int .i64 a0.Tag.Vid, .int .i64 a0.Type_, .string a0.Body] 29 (0, 0))]) (fun _ => []) (fun _ => by kernel_rfl) (fun _ => ?_)
        refine WP.done ?_
        refine WP.cond ((a0.Type_ == 0) && (decide ((a0.Body.size : Int) > 1500))) rfl rfl (fun c9 => ?_) (fun c9 => ?_)
        · replace hM := cond_t hM c9
          refine WP.seq ?_
          refine WP.run [] [2] (fun _ => [(2, .int .i64 40)]) (fun _ => [(b1, .cells #[.int .u64 a0.Dst, .int .u64 a0.Src, .bool a0.Tag.Has, .int .i64 a0.Tag.Pri, .bool a0.Tag.Dei, .int .i64 a0.Tag.Vid, .int .i64 a0.Type_, .string a0.Body] 29 (0, 0))]) (fun _ => []) (fun _ => by kernel_rfl) (fun _ => ?_)
          refine WP.keep [false] (by kernel_rfl : _ = []) ?_
          obtain rfl := Option.some.inj hM
          exact WP.ret [] [] (.int .i64 40) (by kernel_rfl) (fun w' hw => ⟨rfl, hw.pick [] rfl⟩)
        · replace hM := cond_f hM c9
          refine WP.seq ?_
          refine WP.region ?_
          refine WL.run 1 [0, 0, 0, 0, 0, 0, 0, 0] [2, 52] (fun _ => [(2, .int .i64 0), (52, .agg #[.int .u64 a0.Dst, .int .u64 a0.Src, .bool a0.Tag.Has, .int .i64 a0.Tag.Pri, .bool a0.Tag.Dei, .int .i64 a0.Tag.Vid, .int .i64 a0.Type_, .string a0.Body])]) (fun _ => [(b1, .cells #[.int .u64 a0.Dst, .int .u64 a0.Src, .bool a0.Tag.Has, .int .i64 a0.Tag.Pri, .bool a0.Tag.Dei, .int .i64 a0.Tag.Vid, .int .i64 a0.Type_, .string a0.Body] 29 (0, 0))]) (fun _ => [b1, b1, b1, b1, b1, b1, b1, b1]) (fun _ => by kernel_rfl) (fun _ => ?_)
          obtain ⟨r10, h11, hM⟩ := bind_some hM
          refine WL.callP [] [] (ether_size_calls a0 _ h11) (fun _ h => h) (by kernel_rfl) (by kernel_rfl) rfl ?_
          refine WL.run 2 [] [2, 51] (fun _ => [(2, .int .i64 0), (51, .bool (decide (r10 > 1600)))]) (fun _ => [(b1, .cells #[.int .u64 a0.Dst, .int .u64 a0.Src, .bool a0.Tag.Has, .int .i64 a0.Tag.Pri, .bool a0.Tag.Dei, .int .i64 a0.Tag.Vid, .int .i64 a0.Type_, .string a0.Body] 29 (0, 0))]) (fun _ => []) (fun _ => by kernel_rfl) (fun _ => ?_)
          refine WP.done ?_
          refine WP.keep [false] (by kernel_rfl : _ = []) ?_
          refine WP.cond (decide (r10 > 1600)) rfl rfl (fun c12 => ?_) (fun c12 => ?_)
          · replace hM := cond_t hM c12
            refine WP.seq ?_
            refine WP.run [] [2] (fun _ => [(2, .int .i64 41)]) (fun _ => []) (fun _ => []) (fun _ => by kernel_rfl) (fun _ => ?_)
            obtain rfl := Option.some.inj hM
            exact WP.ret [] [] (.int .i64 41) (by kernel_rfl) (fun w' hw => ⟨rfl, hw.pick [] rfl⟩)
          · replace hM := cond_f hM c12
            refine WP.skip ?_
            refine WP.leave ?_
            refine WP.seq ?_
            refine WP.run [] [2] (fun _ => [(2, .int .i64 0)]) (fun _ => []) (fun _ => []) (fun _ => by kernel_rfl) (fun _ => ?_)
            obtain rfl := Option.some.inj hM
            exact WP.ret [] [] (.int .i64 0) (by kernel_rfl) (fun w' hw => ⟨rfl, hw.pick [] rfl⟩)
    ·
      refine WL.split (fun b' => [(1, .pointer (some ⟨b1, 0, none⟩)), (2, .int .i64 0), (3, .bool (((decide (a0.Type_ ≥ 1536)) && (decide (a0.Type_ ≤ 65535))) && (a0.Type_ != 33024))), (32, .bool b')]) x5 (fun c6 => ?_) (fun c6 => ?_)
      · replace hM := cond_t hM c6
        refine WL.run 8 [] [1, 2, 40] (fun _ => [(1, .pointer (some ⟨b1, 0, none⟩)), (2, .int .i64 0), (40, .bool true)]) (fun _ => [(b1, .cells #[.int .u64 a0.Dst, .int .u64 a0.Src, .bool a0.Tag.Has, .int .i64 a0.Tag.Pri, .bool a0.Tag.Dei, .int .i64 a0.Tag.Vid, .int .i64 a0.Type_, .string a0.Body] 29 (0, 0))]) (fun _ => []) (fun _ => by kernel_rfl) (fun _ => ?_)
        exact WL.sub [1, 2, 40] (by kernel_rfl) (WL.pick [0] (by kernel_rfl) (by kernel_rfl) (K1 true hM))
      · replace hM := cond_f hM c6
        refine WL.run 4 [0] [1, 2, 3, 32, 36] (fun _ => [(1, .pointer (some ⟨b1, 0, none⟩)), (2, .int .i64 0), (3, .bool (((decide (a0.Type_ ≥ 1536)) && (decide (a0.Type_ ≤ 65535))) && (a0.Type_ != 33024))), (32, .bool false), (36, .bool (a0.Type_ != 0))]) (fun _ => [(b1, .cells #[.int .u64 a0.Dst, .int .u64 a0.Src, .bool a0.Tag.Has, .int .i64 a0.Tag.Pri, .bool a0.Tag.Dei, .int .i64 a0.Tag.Vid, .int .i64 a0.Type_, .string a0.Body] 29 (0, 0))]) (fun _ => [b1]) (fun _ => by kernel_rfl) (fun _ => ?_)
        refine WL.sub [1, 2, 3, 32, 36] (L' := [(1, .pointer (some ⟨b1, 0, none⟩)), (2, .int .i64 0), (3, .bool (((decide (a0.Type_ ≥ 1536)) && (decide (a0.Type_ ≤ 65535))) && (a0.Type_ != 33024))), (32, .bool false), (36, .bool (a0.Type_ != 0))]) (by kernel_rfl) ?_
        refine WL.both (fun b' => [(1, .pointer (some ⟨b1, 0, none⟩)), (2, .int .i64 0), (3, .bool (((decide (a0.Type_ ≥ 1536)) && (decide (a0.Type_ ≤ 65535))) && (a0.Type_ != 33024))), (32, .bool false), (36, .bool b')]) (a0.Type_ != 0) 3 [] [] [1, 2, 32, 39] (fun b' => [(1, .pointer (some ⟨b1, 0, none⟩)), (2, .int .i64 0), (32, .bool false), (39, .bool (b' && (!(((decide (a0.Type_ ≥ 1536)) && (decide (a0.Type_ ≤ 65535))) && (a0.Type_ != 33024)))))]) [] [] (fun _ => by kernel_rfl) (fun _ => by kernel_rfl) ?_
        refine WL.run 1 [] [1, 2, 40] (fun _ => [(1, .pointer (some ⟨b1, 0, none⟩)), (2, .int .i64 0), (40, .bool ((a0.Type_ != 0) && (!(((decide (a0.Type_ ≥ 1536)) && (decide (a0.Type_ ≤ 65535))) && (a0.Type_ != 33024)))))]) (fun _ => [(b1, .cells #[.int .u64 a0.Dst, .int .u64 a0.Src, .bool a0.Tag.Has, .int .i64 a0.Tag.Pri, .bool a0.Tag.Dei, .int .i64 a0.Tag.Vid, .int .i64 a0.Type_, .string a0.Body] 29 (0, 0))]) (fun _ => []) (fun _ => by kernel_rfl) (fun _ => ?_)
        exact WL.sub [1, 2, 40] (by kernel_rfl) (WL.pick [0] (by kernel_rfl) (by kernel_rfl) (K1 ((a0.Type_ != 0) && (!(((decide (a0.Type_ ≥ 1536)) && (decide (a0.Type_ ≤ 65535))) && (a0.Type_ != 33024)))) hM))
  ·
    refine WL.split (fun b' => [(1, .pointer (some ⟨b1, 0, none⟩)), (2, .int .i64 0), (3, .bool (((decide (a0.Type_ ≥ 1536)) && (decide (a0.Type_ ≤ 65535))) && (a0.Type_ != 33024))), (26, .bool b')]) ((decide (a0.Dst ≥ 281474976710656)) || (decide (a0.Src ≥ 281474976710656))) (fun c2 => ?_) (fun c2 => ?_)
    · replace hM := cond_t hM c2
      refine WL.run 5 [] [1, 2, 3, 31] (fun _ => [(1, .pointer (some ⟨b1, 0, none⟩)), (2, .int .i64 0), (3, .bool (((decide (a0.Type_ ≥ 1536)) && (decide (a0.Type_ ≤ 65535))) && (a0.Type_ != 33024))), (31, .bool true)]) (fun _ => [(b1, .cells #[.int .u64 a0.Dst, .int .u64 a0.Src, .bool a0.Tag.Has, .int .i64 a0.Tag.Pri, .bool a0.Tag.Dei, .int .i64 a0.Tag.Vid, .int .i64 a0.Type_, .string a0.Body] 29 (0, 0))]) (fun _ => []) (fun _ => by kernel_rfl) (fun _ => ?_)
      exact WL.sub [1, 2, 3, 31] (by kernel_rfl) (WL.pick [0] (by kernel_rfl) (by kernel_rfl) (K2 true hM))
    · replace hM := cond_f hM c2
      refine WL.run 2 [0, 0, 0, 0] [1, 2, 3, 26, 28] (fun _ => [(1, .pointer (some ⟨b1, 0, none⟩)), (2, .int .i64 0), (3, .bool (((decide (a0.Type_ ≥ 1536)) && (decide (a0.Type_ ≤ 65535))) && (a0.Type_ != 33024))), (26, .bool false), (28, .agg #[.bool a0.Tag.Has, .int .i64 a0.Tag.Pri, .bool a0.Tag.Dei, .int .i64 a0.Tag.Vid])]) (fun _ => [(b1, .cells #[.int .u64 a0.Dst, .int .u64 a0.Src, .bool a0.Tag.Has, .int .i64 a0.Tag.Pri, .bool a0.Tag.Dei, .int .i64 a0.Tag.Vid, .int .i64 a0.Type_, .string a0.Body] 29 (0, 0))]) (fun _ => [b1, b1, b1, b1]) (fun _ => by kernel_rfl) (fun _ => ?_)
      obtain ⟨r3, h4, hM⟩ := bind_some hM
      refine WL.callP [] [] (ether_tag_calls a0.Tag _ h4) (fun _ h => h) (by kernel_rfl) (by kernel_rfl) rfl ?_
      refine WL.run 2 [] [1, 2, 3, 31] (fun _ => [(1, .pointer (some ⟨b1, 0, none⟩)), (2, .int .i64 0), (3, .bool (((decide (a0.Type_ ≥ 1536)) && (decide (a0.Type_ ≤ 65535))) && (a0.Type_ != 33024))), (31, .bool (!r3))]) (fun _ => [(b1, .cells #[.int .u64 a0.Dst, .int .u64 a0.Src, .bool a0.Tag.Has, .int .i64 a0.Tag.Pri, .bool a0.Tag.Dei, .int .i64 a0.Tag.Vid, .int .i64 a0.Type_, .string a0.Body] 29 (0, 0))]) (fun _ => []) (fun _ => by kernel_rfl) (fun _ => ?_)
      exact WL.sub [1, 2, 3, 31] (by kernel_rfl) (WL.pick [0] (by kernel_rfl) (by kernel_rfl) (K2 (!r3) hM))

end Go.Proofs.YtbodofjnfmjbpaaGreatDoor

namespace Go.Proofs.YtbodofjnfmjbpaaGreatDoor
open Go Eng
set_option linter.unusedVariables false
set_option linter.unusedSimpArgs false

/-! ### gangway/octets.Put: function 38 -/
def octets_Put.k4 (t8 : Nat) (x24 : (List Int)) : Option (ByteArray × Int) :=
  (strOf t8 x24).bind fun t25 =>
  some (t25, 0)

def octets_Put.l3 (t8 : Nat) (a0 : Int) (a1 : Int) : Nat → Int → (List Int) → Option (ByteArray × Int)
  | 0, _, _ => none
  | n + 1, x17, x18 =>
    bif decide (x17 < (t8 : Int)) then
      (shrI .u64 a0 (i64 (8 * x17))).bind fun t20 =>
      (getL t8 x18 (i64 ((i64 (a1 - 1)) - x17))).bind fun t22 =>
      octets_Put.l3 t8 a0 a1 n (i64 (x17 + 1)) (List.set x18 (i64 ((i64 (a1 - 1)) - x17)).toNat (u8 t20))
    else
      octets_Put.k4 t8 x18

def octets_Put.k2 (a1 : Int) (a0 : Int) (k : Nat) (x6 : Bool) : Option (ByteArray × Int) :=
  bif x6 then
    some ((⟨#[]⟩ : ByteArray), 1)
  else
    (mkLen 1 a1).bind fun t8 =>
    octets_Put.l3 t8 a0 a1 k 0 (List.replicate t8 0)

def octets_Put.k1 (a1 : Int) (a0 : Int) (k : Nat) (x5 : Bool) : Option (ByteArray × Int) :=
  octets_Put.k2 a1 a0 k x5

def octets_Put.f (k : Nat) (a0 : Int) (a1 : Int) : Option (ByteArray × Int) :=
  bif ((decide (a1 < 1)) || (decide (a1 > 8))) then
    octets_Put.k2 a1 a0 k true
  else
    bif decide (a1 < 8) then
      (shrI .u64 a0 (i64 (8 * a1))).bind fun t3 =>
      octets_Put.k1 a1 a0 k (t3 != 0)
    else
      octets_Put.k1 a1 a0 k false

set_option maxRecDepth 100000 in
theorem octets_Put_calls (k : Nat) (a0 : Int) (a1 : Int) (r : ByteArray × Int) (h : octets_Put.f k a0 a1 = some r) : Pure Tryz.prog Glob 38 #[.int .u64 a0, .int .i64 a1] (.tuple #[.string r.1, .int .i64 r.2]) := by
  intro w Z hS
  refine calls_of (args := [.int .u64 a0, .int .i64 a1]) (L := [(0, .int .u64 a0), (1, .int .i64 a1)]) (N := 46) (S := Sat w Z [] [] Glob) Tryz.func38 rfl rfl (Nat.le_of_ble_eq_true rfl) rfl hS ?_
  have hM := h
  clear h hS
  unfold octets_Put.f at hM
  refine WP.seq ?_
  refine WP.run [] [0, 1, 4, 5] (fun _ => [(0, .int .u64 a0), (1, .int .i64 a1), (4, .string (⟨#[]⟩ : ByteArray)), (5, .int .i64 0)]) (fun _ => []) (fun _ => []) (fun _ => by kernel_rfl) (fun _ => ?_)
  refine WP.seq ?_
  refine WP.seq ?_
  refine WP.region ?_
  refine WL.run 3 [] [0, 1, 4, 5, 10] (fun _ => [(0, .int .u64 a0), (1, .int .i64 a1), (4, .string (⟨#[]⟩ : ByteArray)), (5, .int .i64 0), (10, .bool (decide (a1 < 1)))]) (fun _ => []) (fun _ => []) (fun _ => by kernel_rfl) (fun _ => ?_)
  refine WL.sub [0, 1, 4, 5, 10] (L' := [(0, .int .u64 a0), (1, .int .i64 a1), (4, .string (⟨#[]⟩ : ByteArray)), (5, .int .i64 0), (10, .bool (decide (a1 < 1)))]) (by kernel_rfl) ?_
  refine WL.both (fun b' => [(0, .int .u64 a0), (1, .int .i64 a1), (4, .string (⟨#[]⟩ : ByteArray)), (5, .int .i64 0), (10, .bool b')]) (decide (a1 < 1)) 3 [] [] [0, 1, 4, 5, 13] (fun b' => [(0, .int .u64 a0), (1, .int .i64 a1), (4, .string (⟨#[]⟩ : ByteArray)), (5, .int .i64 0), (13, .bool (b' || (decide (a1 > 8))))]) [] [] (fun _ => by kernel_rfl) (fun _ => by kernel_rfl) ?_
  refine WL.run 1 [] [0, 1, 4, 5, 14] (fun _ => [(0, .int .u64 a0), (1, .int .i64 a1), (4, .string (⟨#[]⟩ : ByteArray)), (5, .int .i64 0), (14, .bool ((decide (a1 < 1)) || (decide (a1 > 8))))]) (fun _ => []) (fun _ => []) (fun _ => by kernel_rfl) (fun _ => ?_)
  refine WL.sub [0, 1, 4, 5, 14] (L' := [(0, .int .u64 a0), (1, .int .i64 a1), (4, .string (⟨#[]⟩ : ByteArray)), (5, .int .i64 0), (14, .bool ((decide (a1 < 1)) || (decide (a1 > 8))))]) (by kernel_rfl) ?_
  refine WL.join (σ := Bool) 10 (fun st => octets_Put.k2 a1 a0 k st = some r) (fun st => [(0, .int .u64 a0), (1, .int .i64 a1), (4, .string (⟨#[]⟩ : ByteArray)), (5, .int .i64 0), (24, .bool st)]) (fun st => Sat w Z [] [] Glob) (fun st hM => ?_) (fun K2 => ?_)
  ·
    obtain ⟨x6, rfl⟩ : ∃ y, y = st := ⟨st, rfl⟩
    replace hM : octets_Put.k2 a1 a0 k x6 = some r := hM
    unfold octets_Put.k2 at hM
    show WL _ _ _ _ _ [(0, .int .u64 a0), (1, .int .i64 a1), (4, .string (⟨#[]⟩ : ByteArray)), (5, .int .i64 0), (24, .bool x6)] (Sat w Z [] [] Glob)
    refine WP.done ?_
    refine WP.cond x6 rfl rfl (fun c7 => ?_) (fun c7 => ?_)
    · replace hM := cond_t hM c7
      refine WP.seq ?_
      refine WP.run [] [0, 1, 4, 5] (fun _ => [(0, .int .u64 a0), (1, .int .i64 a1), (4, .string (⟨#[]⟩ : ByteArray)), (5, .int .i64 1)]) (fun _ => []) (fun _ => []) (fun _ => by kernel_rfl) (fun _ => ?_)
      obtain rfl := Option.some.inj hM
      exact WP.ret [] [] (.tuple #[.string (⟨#[]⟩ : ByteArray), .int .i64 1]) (by kernel_rfl) (fun w' hw => ⟨rfl, hw.pick [] rfl⟩)
    · replace hM := cond_f hM c7
      refine WP.skip ?_
      refine WP.seq ?_
      refine WP.region ?_
      refine WL.run 1 [] [0, 1, 4, 5, 25] (fun _ => [(0, .int .u64 a0), (1, .int .i64 a1), (4, .string (⟨#[]⟩ : ByteArray)), (5, .int .i64 0), (25, .int .i64 a1)]) (fun _ => []) (fun _ => []) (fun _ => by kernel_rfl) (fun _ => ?_)
      obtain ⟨t8, h9, hM⟩ := bind_some hM
      refine WL.makeSlice (f := (encI .u8)) (z := 0) (zv := .int .u8 0) (i := a1) (k := .i64) (e := 5) (by kernel_rfl) (by kernel_rfl) rfl Nat.zero_lt_one (fun _ => rfl) (by kernel_rfl) (by kernel_rfl) h9 (by kernel_rfl) rfl (fun b10 => ?_)
      refine WL.run 1 [] [0, 1, 4, 5, 6] (fun _ => [(0, .int .u64 a0), (1, .int .i64 a1), (4, .string (⟨#[]⟩ : ByteArray)), (5, .int .i64 0), (6, .slice (some ⟨b10, 0, none⟩) t8 t8)]) (fun _ => [(b10, .cells (rowF (encI .u8) (List.replicate t8 0)) 5 (0, 0))]) (fun _ => []) (fun _ => by kernel_rfl) (fun _ => ?_)
      refine WP.done ?_
      refine WP.seq ?_
      refine WP.seq ?_
      refine WP.run [] [0, 1, 4, 5, 6, 28, 29] (fun _ => [(0, .int .u64 a0), (1, .int .i64 a1), (4, .string (⟨#[]⟩ : ByteArray)), (5, .int .i64 0), (6, .slice (some ⟨b10, 0, none⟩) t8 t8), (28, .int .i64 (t8 : Int)), (29, .int .i64 0)]) (fun _ => [(b10, .cells (rowF (encI .u8) (List.replicate t8 0)) 5 (0, 0))]) (fun _ => []) (fun _ => by kernel_rfl) (fun _ => ?_)
      refine WP.blockJoin (σ := (List Int)) (fun st => octets_Put.k4 t8 st = some r) (fun st => [(4, .string (⟨#[]⟩ : ByteArray)), (5, .int .i64 0), (6, .slice (some ⟨b10, 0, none⟩) t8 t8)]) (fun st => Sat w Z [(b10, .cells (rowF (encI .u8) st) 5 (0, 0))] [] Glob) (fun st hM => ?_) (fun K4 => ?_)
      ·
        obtain ⟨x24, rfl⟩ : ∃ y, y = st := ⟨st, rfl⟩
        replace hM : octets_Put.k4 t8 x24 = some r := hM
        unfold octets_Put.k4 at hM
        show WP _ _ _ _ _ [(4, .string (⟨#[]⟩ : ByteArray)), (5, .int .i64 0), (6, .slice (some ⟨b10, 0, none⟩) t8 t8)] (Sat w Z [(b10, .cells (rowF (encI .u8) x24) 5 (0, 0))] [] Glob)
        refine WP.seq ?_
        refine WP.region ?_
        refine WL.run 1 [] [4, 5, 44] (fun _ => [(4, .string (⟨#[]⟩ : ByteArray)), (5, .int .i64 0), (44, .slice (some ⟨b10, 0, none⟩) t8 t8)]) (fun _ => [(b10, .cells (rowF (encI .u8) x24) 5 (0, 0))]) (fun _ => []) (fun _ => by kernel_rfl) (fun _ => ?_)
        obtain ⟨t25, h26, hM⟩ := bind_some hM
        refine WL.strOf (b := b10) (n := t8) (c := t8) (xs := x24) (e0 := 5) (fr := (0, 0)) 0 (e := 5) (by kernel_rfl) (by kernel_rfl) (by kernel_rfl) (by kernel_rfl) (by kernel_rfl) (by kernel_rfl) h26 (by kernel_rfl) rfl ?_
        refine WL.run 2 [] [4, 5] (fun _ => [(4, .string t25), (5, .int .i64 0)]) (fun _ => [(b10, .cells (rowF (encI .u8) x24) 5 (0, 0))]) (fun _ => []) (fun _ => by kernel_rfl) (fun _ => ?_)
        refine WP.done ?_
        refine WP.keep [false] (by kernel_rfl : _ = []) ?_
        obtain rfl := Option.some.inj hM
        exact WP.ret [] [] (.tuple #[.string t25, .int .i64 0]) (by kernel_rfl) (fun w' hw => ⟨rfl, hw.pick [] rfl⟩)
      ·
        refine WP.sub [0, 1, 4, 5, 6, 28, 29] (L' := [(0, .int .u64 a0), (1, .int .i64 a1), (4, .string (⟨#[]⟩ : ByteArray)), (5, .int .i64 0), (6, .slice (some ⟨b10, 0, none⟩) t8 t8), (28, .int .i64 (t8 : Int)), (29, .int .i64 0)]) (by kernel_rfl) ?_
        refine WP.loop (σ := Int × (List Int)) (fun n st => octets_Put.l3 t8 a0 a1 n st.1 st.2) r (fun st => [(0, .int .u64 a0), (1, .int .i64 a1), (4, .string (⟨#[]⟩ : ByteArray)), (5, .int .i64 0), (6, .slice (some ⟨b10, 0, none⟩) t8 t8), (28, .int .i64 (t8 : Int)), (29, .int .i64 st.1)]) (fun st => Sat w Z [(b10, .cells (rowF (encI .u8) st.2) 5 (0, 0))] [] Glob) (st := (0, (List.replicate t8 0))) (fun n st hM => ?_) hM
        rcases n with _ | n
        · exact nomatch (show (none : Option _) = some r from hM)
        obtain ⟨x17, x18⟩ := st
        replace hM : octets_Put.l3 t8 a0 a1 (n + 1) x17 x18 = some r := hM
        rw [octets_Put.l3] at hM
        show WP _ _ _ _ _ [(0, .int .u64 a0), (1, .int .i64 a1), (4, .string (⟨#[]⟩ : ByteArray)), (5, .int .i64 0), (6, .slice (some ⟨b10, 0, none⟩) t8 t8), (28, .int .i64 (t8 : Int)), (29, .int .i64 x17)] (Sat w Z [(b10, .cells (rowF (encI .u8) x18) 5 (0, 0))] [] Glob)
        refine WP.seq ?_
        refine WP.run [] [0, 1, 4, 5, 6, 28, 29, 30] (fun _ => [(0, .int .u64 a0), (1, .int .i64 a1), (4, .string (⟨#[]⟩ : ByteArray)), (5, .int .i64 0), (6, .slice (some ⟨b10, 0, none⟩) t8 t8), (28, .int .i64 (t8 : Int)), (29, .int .i64 x17), (30, .bool (decide (x17 < (t8 : Int))))]) (fun _ => [(b10, .cells (rowF (encI .u8) x18) 5 (0, 0))]) (fun _ => []) (fun _ => by kernel_rfl) (fun _ => ?_)
        refine WP.seq ?_
        refine WP.cond (decide (x17 < (t8 : Int))) rfl rfl (fun c19 => ?_) (fun c19 => ?_)
        · replace hM := cond_t hM c19
          refine WP.skip ?_
          refine WP.seq ?_
          refine WP.block ?_
          refine WP.seq ?_
          refine WP.run [] [0, 1, 4, 5, 6, 7, 28, 29, 30, 31] (fun _ => [(0, .int .u64 a0), (1, .int .i64 a1), (4, .string (⟨#[]⟩ : ByteArray)), (5, .int .i64 0), (6, .slice (some ⟨b10, 0, none⟩) t8 t8), (7, .int .i64 x17), (28, .int .i64 (t8 : Int)), (29, .int .i64 x17), (30, .bool (decide (x17 < (t8 : Int)))), (31, .int .i64 x17)]) (fun _ => [(b10, .cells (rowF (encI .u8) x18) 5 (0, 0))]) (fun _ => []) (fun _ => by kernel_rfl) (fun _ => ?_)
          refine WP.region ?_
          refine WL.run 8 [] [0, 1, 4, 5, 6, 7, 28, 29, 30, 31, 32, 33, 34, 35, 36, 37, 38, 39] (fun _ => [(0, .int .u64 a0), (1, .int .i64 a1), (4, .string (⟨#[]⟩ : ByteArray)), (5, .int .i64 0), (6, .slice (some ⟨b10, 0, none⟩) t8 t8), (7, .int .i64 x17), (28, .int .i64 (t8 : Int)), (29, .int .i64 x17), (30, .bool (decide (x17 < (t8 : Int)))), (31, .int .i64 x17), (32, .slice (some ⟨b10, 0, none⟩) t8 t8), (33, .int .i64 a1), (34, .int .i64 (i64 (a1 - 1))), (35, .int .i64 x17), (36, .int .i64 (i64 ((i64 (a1 - 1)) - x17))), (37, .int .u64 a0), (38, .int .i64 x17), (39, .int .i64 (i64 (8 * x17)))]) (fun _ => [(b10, .cells (rowF (encI .u8) x18) 5 (0, 0))]) (fun _ => []) (fun _ => by kernel_rfl) (fun _ => ?_)
          obtain ⟨t20, h21, hM⟩ := bind_some hM
          refine WL.val (fun _ => run_shr (k := .u64) (k' := .i64) (a := a0) (b := i64 (8 * x17)) (by kernel_rfl) (by kernel_rfl) h21) (by kernel_rfl) (by kernel_rfl) rfl ?_
          refine WL.run 1 [] [0, 1, 4, 5, 6, 7, 28, 29, 30, 31, 32, 33, 34, 35, 36, 37, 38, 39, 40, 41] (fun _ => [(0, .int .u64 a0), (1, .int .i64 a1), (4, .string (⟨#[]⟩ : ByteArray)), (5, .int .i64 0), (6, .slice (some ⟨b10, 0, none⟩) t8 t8), (7, .int .i64 x17), (28, .int .i64 (t8 : Int)), (29, .int .i64 x17), (30, .bool (decide (x17 < (t8 : Int)))), (31, .int .i64 x17), (32, .slice (some ⟨b10, 0, none⟩) t8 t8), (33, .int .i64 a1), (34, .int .i64 (i64 (a1 - 1))), (35, .int .i64 x17), (36, .int .i64 (i64 ((i64 (a1 - 1)) - x17))), (37, .int .u64 a0), (38, .int .i64 x17), (39, .int .i64 (i64 (8 * x17))), (40, .int .u64 t20), (41, .int .u8 (u8 t20))]) (fun _ => [(b10, .cells (rowF (encI .u8) x18) 5 (0, 0))]) (fun _ => []) (fun _ => by kernel_rfl) (fun _ => ?_)
          obtain ⟨t22, h23, hM⟩ := bind_some hM
          refine WL.val (fun _ => run_indexAddr (i := i64 ((i64 (a1 - 1)) - x17)) (k := .i64) (b := b10) (o := 0) (n := t8) (c := t8) (e := 5) (sz := 1) (by kernel_rfl) (by kernel_rfl) (by kernel_rfl) (by kernel_rfl) (getL_parts h23).1) (by kernel_rfl) (by kernel_rfl) rfl ?_
          refine WL.storeCell (b := b10) (off := 0 + (i64 ((i64 (a1 - 1)) - x17)).toNat * 1) (e := 5) (H' := [(b10, .cells (rowF (encI .u8) (List.set x18 (i64 ((i64 (a1 - 1)) - x17)).toNat (u8 t20))) 5 (0, 0))]) (v := .int .u8 (u8 t20)) (u := .int .u8 t22) 0 (fun _ => by kernel_rfl) (by kernel_rfl) (by kernel_rfl) (by kernel_rfl) (by kernel_rfl) rfl (by kernel_rfl) (rowF_at0 (f := (encI .u8)) (m := 1) (fun _ => rfl) Nat.zero_lt_one h23) (rowF_set0 (f := (encI .u8)) (m := 1) (x' := u8 t20) (fun _ => rfl) Nat.zero_lt_one h23 rfl) (by kernel_rfl) (by kernel_rfl) ?_
          refine WP.done ?_
          refine WP.leave ?_
          refine WP.run [] [0, 1, 4, 5, 6, 7, 28, 29, 30, 31, 32, 33, 34, 35, 36, 37, 38, 39, 40, 41, 42, 43] (fun _ => [(0, .int .u64 a0), (1, .int .i64 a1), (4, .string (⟨#[]⟩ : ByteArray)), (5, .int .i64 0), (6, .slice (some ⟨b10, 0, none⟩) t8 t8), (7, .int .i64 x17), (28, .int .i64 (t8 : Int)), (29, .int .i64 (i64 (x17 + 1))), (30, .bool (decide (x17 < (t8 : Int)))), (31, .int .i64 x17), (32, .slice (some ⟨b10, 0, none⟩) t8 t8), (33, .int .i64 a1), (34, .int .i64 (i64 (a1 - 1))), (35, .int .i64 x17), (36, .int .i64 (i64 ((i64 (a1 - 1)) - x17))), (37, .int .u64 a0), (38, .int .i64 x17), (39, .int .i64 (i64 (8 * x17))), (40, .int .u64 t20), (41, .int .u8 (u8 t20)), (42, .pointer (some ⟨b10, 0 + (i64 ((i64 (a1 - 1)) - x17)).toNat * 1, none⟩)), (43, .int .i64 (i64 (x17 + 1)))]) (fun _ => [(b10, .cells (rowF (encI .u8) (List.set x18 (i64 ((i64 (a1 - 1)) - x17)).toNat (u8 t20))) 5 (0, 0))]) (fun _ => []) (fun _ => by kernel_rfl) (fun _ => ?_)
          exact WP.again' [0, 1, 4, 5, 6, 28, 29] (i64 (x17 + 1), (List.set x18 (i64 ((i64 (a1 - 1)) - x17)).toNat (u8 t20))) hM (by kernel_rfl) (fun _ h => h.pick [0] (by kernel_rfl))
        · replace hM := cond_f hM c19
          refine WP.exit rfl ?_
          exact WP.sub [4, 5, 6] (by kernel_rfl) (WP.pick [0] (by kernel_rfl) (by kernel_rfl) (K4 x18 hM))
  ·
    refine WL.split (fun b' => [(0, .int .u64 a0), (1, .int .i64 a1), (4, .string (⟨#[]⟩ : ByteArray)), (5, .int .i64 0), (14, .bool b')]) ((decide (a1 < 1)) || (decide (a1 > 8))) (fun c1 => ?_) (fun c1 => ?_)
    · replace hM := cond_t hM c1
      refine WL.run 10 [] [0, 1, 4, 5, 24] (fun _ => [(0, .int .u64 a0), (1, .int .i64 a1), (4, .string (⟨#[]⟩ : ByteArray)), (5, .int .i64 0), (24, .bool true)]) (fun _ => []) (fun _ => []) (fun _ => by kernel_rfl) (fun _ => ?_)
      exact WL.sub [0, 1, 4, 5, 24] (by kernel_rfl) (WL.pick [] (by kernel_rfl) (by kernel_rfl) (K2 true hM))
    · replace hM := cond_f hM c1
      refine WL.run 3 [] [0, 1, 4, 5, 14, 17] (fun _ => [(0, .int .u64 a0), (1, .int .i64 a1), (4, .string (⟨#[]⟩ : ByteArray)), (5, .int .i64 0), (14, .bool false), (17, .bool (decide (a1 < 8)))]) (fun _ => []) (fun _ => []) (fun _ => by kernel_rfl) (fun _ => ?_)
      refine WL.sub [0, 1, 4, 5, 14, 17] (L' := [(0, .int .u64 a0), (1, .int .i64 a1), (4, .string (⟨#[]⟩ : ByteArray)), (5, .int .i64 0), (14, .bool false), (17, .bool (decide (a1 < 8)))]) (by kernel_rfl) ?_
      refine WL.join (σ := Bool) 6 (fun st => octets_Put.k1 a1 a0 k st = some r) (fun st => [(0, .int .u64 a0), (1, .int .i64 a1), (4, .string (⟨#[]⟩ : ByteArray)), (5, .int .i64 0), (14, .bool false), (23, .bool st)]) (fun st => Sat w Z [] [] Glob) (fun st hM => ?_) (fun K1 => ?_)
      ·
        obtain ⟨x5, rfl⟩ : ∃ y, y = st := ⟨st, rfl⟩
        replace hM : octets_Put.k1 a1 a0 k x5 = some r := hM
        unfold octets_Put.k1 at hM
        show WL _ _ _ _ _ [(0, .int .u64 a0), (1, .int .i64 a1), (4, .string (⟨#[]⟩ : ByteArray)), (5, .int .i64 0), (14, .bool false), (23, .bool x5)] (Sat w Z [] [] Glob)
        refine WL.run 1 [] [0, 1, 4, 5, 24] (fun _ => [(0, .int .u64 a0), (1, .int .i64 a1), (4, .string (⟨#[]⟩ : ByteArray)), (5, .int .i64 0), (24, .bool x5)]) (fun _ => []) (fun _ => []) (fun _ => by kernel_rfl) (fun _ => ?_)
        exact WL.sub [0, 1, 4, 5, 24] (by kernel_rfl) (WL.pick [] (by kernel_rfl) (by kernel_rfl) (K2 x5 hM))
      ·
        refine WL.split (fun b' => [(0, .int .u64 a0), (1, .int .i64 a1), (4, .string (⟨#[]⟩ : ByteArray)), (5, .int .i64 0), (14, .bool false), (17, .bool b')]) (decide (a1 < 8)) (fun c2 => ?_) (fun c2 => ?_)
        · replace hM := cond_t hM c2
          refine WL.run 3 [] [0, 1, 4, 5, 14, 17, 18, 20] (fun _ => [(0, .int .u64 a0), (1, .int .i64 a1), (4, .string (⟨#[]⟩ : ByteArray)), (5, .int .i64 0), (14, .bool false), (17, .bool true), (18, .int .u64 a0), (20, .int .i64 (i64 (8 * a1)))]) (fun _ => []) (fun _ => []) (fun _ => by kernel_rfl) (fun _ => ?_)
          obtain ⟨t3, h4, hM⟩ := bind_some hM
          refine WL.val (fun _ => run_shr (k := .u64) (k' := .i64) (a := a0) (b := i64 (8 * a1)) (by kernel_rfl) (by kernel_rfl) h4) (by kernel_rfl) (by kernel_rfl) rfl ?_
          refine WL.run 2 [] [0, 1, 4, 5, 14, 23] (fun _ => [(0, .int .u64 a0), (1, .int .i64 a1), (4, .string (⟨#[]⟩ : ByteArray)), (5, .int .i64 0), (14, .bool false), (23, .bool (t3 != 0))]) (fun _ => []) (fun _ => []) (fun _ => by kernel_rfl) (fun _ => ?_)
          exact WL.sub [0, 1, 4, 5, 14, 23] (by kernel_rfl) (WL.pick [] (by kernel_rfl) (by kernel_rfl) (K1 (t3 != 0) hM))
        · replace hM := cond_f hM c2
          refine WL.run 6 [] [0, 1, 4, 5, 14, 23] (fun _ => [(0, .int .u64 a0), (1, .int .i64 a1), (4, .string (⟨#[]⟩ : ByteArray)), (5, .int .i64 0), (14, .bool false), (23, .bool false)]) (fun _ => []) (fun _ => []) (fun _ => by kernel_rfl) (fun _ => ?_)
          exact WL.sub [0, 1, 4, 5, 14, 23] (by kernel_rfl) (WL.pick [] (by kernel_rfl) (by kernel_rfl) (K1 false hM))

end Go.Proofs.YtbodofjnfmjbpaaGreatDoor

namespace Go.Proofs.YtbodofjnfmjbpaaGreatDoor
open Go Eng
set_option linter.unusedVariables false
set_option linter.unusedSimpArgs false

/-! ### gangway/ether.put: function 36 -/
def ether_put.f (k : Nat) (a0 : Int) (a1 : Int) : Option (ByteArray) :=
  (octets_Put.f k a0 a1).bind fun (r1, r2) =>
  some r1

set_option maxRecDepth 100000 in
theorem ether_put_calls (k : Nat) (a0 : Int) (a1 : Int) (r : ByteArray) (h : ether_put.f k a0 a1 = some r) : Pure Tryz.prog Glob 36 #[.int .u64 a0, .int .i64 a1] (.string r) := by
  intro w Z hS
  refine calls_of (args := [.int .u64 a0, .int .i64 a1]) (L := [(0, .int .u64 a0), (1, .int .i64 a1)]) (N := 14) (S := Sat w Z [] [] Glob) Tryz.func36 rfl rfl (Nat.le_of_ble_eq_true rfl) rfl hS ?_
  have hM := h
  clear h hS
  unfold ether_put.f at hM
  refine WP.seq ?_
  refine WP.run [] [0, 1, 4] (fun _ => [(0, .int .u64 a0), (1, .int .i64 a1), (4, .string (⟨#[]⟩ : ByteArray))]) (fun _ => []) (fun _ => []) (fun _ => by kernel_rfl) (fun _ => ?_)
  refine WP.seq ?_
  refine WP.region ?_
  refine WL.run 2 [] [4, 8, 9] (fun _ => [(4, .string (⟨#[]⟩ : ByteArray)), (8, .int .u64 a0), (9, .int .i64 a1)]) (fun _ => []) (fun _ => []) (fun _ => by kernel_rfl) (fun _ => ?_)
  obtain ⟨⟨r1, r2⟩, h3, hM⟩ := bind_some hM
  dsimp only at hM
  refine WL.callP [] [] (octets_Put_calls k a0 a1 _ h3) (fun _ h => h) (by kernel_rfl) (by kernel_rfl) rfl ?_
  refine WL.run 5 [] [4, 5] (fun _ => [(4, .string (⟨#[]⟩ : ByteArray)), (5, .string r1)]) (fun _ => []) (fun _ => []) (fun _ => by kernel_rfl) (fun _ => ?_)
  refine WP.done ?_
  refine WP.seq ?_
  refine WP.run [] [4] (fun _ => [(4, .string r1)]) (fun _ => []) (fun _ => []) (fun _ => by kernel_rfl) (fun _ => ?_)
  obtain rfl := Option.some.inj hM
  exact WP.ret [] [] (.string r1) (by kernel_rfl) (fun w' hw => ⟨rfl, hw.pick [] rfl⟩)

end Go.Proofs.YtbodofjnfmjbpaaGreatDoor

namespace Go.Proofs.YtbodofjnfmjbpaaGreatDoor
open Go Eng
set_option linter.unusedVariables false
set_option linter.unusedSimpArgs false

/-! ### gangway/ether.info: function 37 -/
def ether_info.k1 (x3 : Int) : Option (Int) :=
  some (u64 x3)

def ether_info.f (a0 : api_Tag) : Option (Int) :=
  bif a0.Dei then
    ether_info.k1 (bOr .i64 (bOr .i64 (i64 (a0.Pri * 8192)) a0.Vid) 4096)
  else
    ether_info.k1 (bOr .i64 (i64 (a0.Pri * 8192)) a0.Vid)

set_option maxRecDepth 100000 in
theorem ether_info_calls (a0 : api_Tag) (r : Int) (h : ether_info.f a0 = some r) : Pure Tryz.prog Glob 37 #[.agg #[.bool a0.Has, .int .i64 a0.Pri, .bool a0.Dei, .int .i64 a0.Vid]] (.int .u64 r) := by
  intro w Z hS
  refine calls_of (args := [.agg #[.bool a0.Has, .int .i64 a0.Pri, .bool a0.Dei, .int .i64 a0.Vid]]) (L := [(0, .agg #[.bool a0.Has, .int .i64 a0.Pri, .bool a0.Dei, .int .i64 a0.Vid])]) (N := 16) (S := Sat w Z [] [] Glob) Tryz.func37 rfl rfl (Nat.le_of_ble_eq_true rfl) rfl hS ?_
  have hM := h
  clear h hS
  unfold ether_info.f at hM
  refine WP.seq ?_
  refine WP.run [] [1, 2] (fun b1 => [(1, .pointer (some ⟨b1, 0, none⟩)), (2, .int .u64 0)]) (fun b1 => [(b1, .cells #[.bool a0.Has, .int .i64 a0.Pri, .bool a0.Dei, .int .i64 a0.Vid] 27 (0, 0))]) (fun b1 => []) (fun b1 => by kernel_rfl) (fun b1 => ?_)
  refine WP.seq ?_
  refine WP.run [0, 0] [1, 2, 3] (fun _ => [(1, .pointer (some ⟨b1, 0, none⟩)), (2, .int .u64 0), (3, .int .i64 (bOr .i64 (i64 (a0.Pri * 8192)) a0.Vid))]) (fun _ => [(b1, .cells #[.bool a0.Has, .int .i64 a0.Pri, .bool a0.Dei, .int .i64 a0.Vid] 27 (0, 0))]) (fun _ => [b1, b1]) (fun _ => by kernel_rfl) (fun _ => ?_)
  refine WP.seqJoin (σ := Int) (fun st => ether_info.k1 st = some r) (fun st => [(2, .int .u64 0), (3, .int .i64 st)]) (fun st => Sat w Z [] [] Glob) (fun st hM => ?_) (fun K1 => ?_)
  ·
    obtain ⟨x3, rfl⟩ : ∃ y, y = st := ⟨st, rfl⟩
    replace hM : ether_info.k1 x3 = some r := hM
    unfold ether_info.k1 at hM
    show WP _ _ _ _ _ [(2, .int .u64 0), (3, .int .i64 x3)] (Sat w Z [] [] Glob)
    refine WP.seq ?_
    refine WP.run [] [2] (fun _ => [(2, .int .u64 (u64 x3))]) (fun _ => []) (fun _ => []) (fun _ => by kernel_rfl) (fun _ => ?_)
    obtain rfl := Option.some.inj hM
    exact WP.ret [] [] (.int .u64 (u64 x3)) (by kernel_rfl) (fun w' hw => ⟨rfl, hw.pick [] rfl⟩)
  ·
    refine WP.seq ?_
    refine WP.run [0] [2, 3, 11] (fun _ => [(2, .int .u64 0), (3, .int .i64 (bOr .i64 (i64 (a0.Pri * 8192)) a0.Vid)), (11, .bool a0.Dei)]) (fun _ => [(b1, .cells #[.bool a0.Has, .int .i64 a0.Pri, .bool a0.Dei, .int .i64 a0.Vid] 27 (0, 0))]) (fun _ => [b1]) (fun _ => by kernel_rfl) (fun _ => ?_)
    refine WP.keep [false] (by kernel_rfl : _ = []) ?_
    refine WP.cond a0.Dei rfl rfl (fun c2 => ?_) (fun c2 => ?_)
    · replace hM := cond_t hM c2
      refine WP.run [] [2, 3] (fun _ => [(2, .int .u64 0), (3, .int .i64 (bOr .i64 (bOr .i64 (i64 (a0.Pri * 8192)) a0.Vid) 4096))]) (fun _ => []) (fun _ => []) (fun _ => by kernel_rfl) (fun _ => ?_)
      exact WP.sub [2, 3] (by kernel_rfl) (WP.pick [] (by kernel_rfl) (by kernel_rfl) (K1 (bOr .i64 (bOr .i64 (i64 (a0.Pri * 8192)) a0.Vid) 4096) hM))
    · replace hM := cond_f hM c2
      refine WP.skip ?_
      exact WP.sub [2, 3] (by kernel_rfl) (WP.pick [] (by kernel_rfl) (by kernel_rfl) (K1 (bOr .i64 (i64 (a0.Pri * 8192)) a0.Vid) hM))

end Go.Proofs.YtbodofjnfmjbpaaGreatDoor

namespace Go.Proofs.YtbodofjnfmjbpaaGreatDoor
open Go Eng
set_option linter.unusedVariables false
set_option linter.unusedSimpArgs false

/-! ### gangway/ether.Build: function 16 -/
def ether_Build.k1 (k : Nat) (x22 : ByteArray) (a0 : api_Frame) (x24 : Int) : Option (ByteArray × Int) :=
  (ether_put.f k (u64 x24) 2).bind fun r25 =>
  (catS x22 r25).bind fun t27 =>
  (catS t27 a0.Body).bind fun t29 =>
  some (t29, 0)

def ether_Build.k2 (a0 : api_Frame) (k : Nat) (x22 : ByteArray) : Option (ByteArray × Int) :=
  bif (a0.Type_ == 0) then
    ether_Build.k1 k x22 a0 (a0.Body.size : Int)
  else
    ether_Build.k1 k x22 a0 a0.Type_

def ether_Build.f (k : Nat) (a0 : api_Frame) : Option (ByteArray × Int) :=
  (ether_Check.f a0).bind fun r2 =>
  bif (r2 != 0) then
    some ((⟨#[]⟩ : ByteArray), r2)
  else
    (ether_put.f k a0.Dst 6).bind fun r5 =>
    (ether_put.f k a0.Src 6).bind fun r7 =>
    (catS r5 r7).bind fun t9 =>
    bif a0.Tag.Has then
      (ether_put.f k 33024 2).bind fun r12 =>
      (ether_info.f a0.Tag).bind fun r14 =>
      (ether_put.f k r14 2).bind fun r16 =>
      (catS r12 r16).bind fun t18 =>
      (catS t9 t18).bind fun t20 =>
      ether_Build.k2 a0 k t20
    else
      ether_Build.k2 a0 k t9

set_option maxRecDepth 100000 in
theorem ether_Build_calls (k : Nat) (a0 : api_Frame) (r : ByteArray × Int) (h : ether_Build.f k a0 = some r) : Pure Tryz.prog Glob 16 #[.agg #[.int .u64 a0.Dst, .int .u64 a0.Src, .bool a0.Tag.Has, .int .i64 a0.Tag.Pri, .bool a0.Tag.Dei, .int .i64 a0.Tag.Vid, .int .i64 a0.Type_, .string a0.Body]] (.tuple #[.string r.1, .int .i64 r.2]) := by
  intro w Z hS
  refine calls_of (args := [.agg #[.int .u64 a0.Dst, .int .u64 a0.Src, .bool a0.Tag.Has, .int .i64 a0.Tag.Pri, .bool a0.Tag.Dei, .int .i64 a0.Tag.Vid, .int .i64 a0.Type_, .string a0.Body]]) (L := [(0, .agg #[.int .u64 a0.Dst, .int .u64 a0.Src, .bool a0.Tag.Has, .int .i64 a0.Tag.Pri, .bool a0.Tag.Dei, .int .i64 a0.Tag.Vid, .int .i64 a0.Type_, .string a0.Body])]) (N := 45) (S := Sat w Z [] [] Glob) Tryz.func16 rfl rfl (Nat.le_of_ble_eq_true rfl) rfl hS ?_
  have hM := h
  clear h hS
  unfold ether_Build.f at hM
  refine WP.seq ?_
  refine WP.run [] [1, 2, 3] (fun b1 => [(1, .pointer (some ⟨b1, 0, none⟩)), (2, .string (⟨#[]⟩ : ByteArray)), (3, .int .i64 0)]) (fun b1 => [(b1, .cells #[.int .u64 a0.Dst, .int .u64 a0.Src, .bool a0.Tag.Has, .int .i64 a0.Tag.Pri, .bool a0.Tag.Dei, .int .i64 a0.Tag.Vid, .int .i64 a0.Type_, .string a0.Body] 29 (0, 0))]) (fun b1 => []) (fun b1 => by kernel_rfl) (fun b1 => ?_)
  refine WP.seq ?_
  refine WP.seq ?_
  refine WP.region ?_
  refine WL.run 1 [0, 0, 0, 0, 0, 0, 0, 0] [1, 2, 3, 7] (fun _ => [(1, .pointer (some ⟨b1, 0, none⟩)), (2, .string (⟨#[]⟩ : ByteArray)), (3, .int .i64 0), (7, .agg #[.int .u64 a0.Dst, .int .u64 a0.Src, .bool a0.Tag.Has, .int .i64 a0.Tag.Pri, .bool a0.Tag.Dei, .int .i64 a0.Tag.Vid, .int .i64 a0.Type_, .string a0.Body])]) (fun _ => [(b1, .cells #[.int .u64 a0.Dst, .int .u64 a0.Src, .bool a0.Tag.Has, .int .i64 a0.Tag.Pri, .bool a0.Tag.Dei, .int .i64 a0.Tag.Vid, .int .i64 a0.Type_, .string a0.Body] 29 (0, 0))]) (fun _ => [b1, b1, b1, b1, b1, b1, b1, b1]) (fun _ => by kernel_rfl) (fun _ => ?_)
  obtain ⟨r2, h3, hM⟩ := bind_some hM
  refine WL.callP [] [] (ether_Check_calls a0 _ h3) (fun _ h => h) (by kernel_rfl) (by kernel_rfl) rfl ?_
  refine WL.run 1 [] [1, 2, 3, 4] (fun _ => [(1, .pointer (some ⟨b1, 0, none⟩)), (2, .string (⟨#[]⟩ : ByteArray)), (3, .int .i64 0), (4, .int .i64 r2)]) (fun _ => [(b1, .cells #[.int .u64 a0.Dst, .int .u64 a0.Src, .bool a0.Tag.Has, .int .i64 a0.Tag.Pri, .bool a0.Tag.Dei, .int .i64 a0.Tag.Vid, .int .i64 a0.Type_, .string a0.Body] 29 (0, 0))]) (fun _ => []) (fun _ => by kernel_rfl) (fun _ => ?_)
  refine WP.done ?_
  refine WP.seq ?_
  refine WP.run [] [1, 2, 3, 4, 10] (fun _ => [(1, .pointer (some ⟨b1, 0, none⟩)), (2, .string (⟨#[]⟩ : ByteArray)), (3, .int .i64 0), (4, .int .i64 r2), (10, .bool (r2 != 0))]) (fun _ => [(b1, .cells #[.int .u64 a0.Dst, .int .u64 a0.Src, .bool a0.Tag.Has, .int .i64 a0.Tag.Pri, .bool a0.Tag.Dei, .int .i64 a0.Tag.Vid, .int .i64 a0.Type_, .string a0.Body] 29 (0, 0))]) (fun _ => []) (fun _ => by kernel_rfl) (fun _ => ?_)
  refine WP.cond (r2 != 0) rfl rfl (fun c4 => ?_) (fun c4 => ?_)
  · replace hM := cond_t hM c4
    refine WP.seq ?_
    refine WP.run [] [1, 2, 3] (fun _ => [(1, .pointer (some ⟨b1, 0, none⟩)), (2, .string (⟨#[]⟩ : ByteArray)), (3, .int .i64 r2)]) (fun _ => [(b1, .cells #[.int .u64 a0.Dst, .int .u64 a0.Src, .bool a0.Tag.Has, .int .i64 a0.Tag.Pri, .bool a0.Tag.Dei, .int .i64 a0.Tag.Vid, .int .i64 a0.Type_, .string a0.Body] 29 (0, 0))]) (fun _ => []) (fun _ => by kernel_rfl) (fun _ => ?_)
    obtain rfl := Option.some.inj hM
    exact WP.ret [] [] (.tuple #[.string (⟨#[]⟩ : ByteArray), .int .i64 r2]) (by kernel_rfl) (fun w' hw => ⟨rfl, hw.pick [] rfl⟩)
  · replace hM := cond_f hM c4
    refine WP.skip ?_
    refine WP.seq ?_
    refine WP.quiet (by kernel_rfl) (by kernel_rfl) ?_
    refine QL.run 2 [0] [1, 2, 3, 13] [b1] [(1, .pointer (some ⟨b1, 0, none⟩)), (2, .string (⟨#[]⟩ : ByteArray)), (3, .int .i64 0), (13, .int .u64 a0.Dst)] (by kernel_rfl) ?_
    obtain ⟨r5, h6, hM⟩ := bind_some hM
    refine QL.callP [] [] (ether_put_calls k a0.Dst 6 _ h6) (fun _ h => h) (by kernel_rfl) (by kernel_rfl) rfl ?_
    refine QL.run 2 [0] [1, 2, 3, 14, 16] [b1] [(1, .pointer (some ⟨b1, 0, none⟩)), (2, .string (⟨#[]⟩ : ByteArray)), (3, .int .i64 0), (14, .string r5), (16, .int .u64 a0.Src)] (by kernel_rfl) ?_
    obtain ⟨r7, h8, hM⟩ := bind_some hM
    refine QL.callP [] [] (ether_put_calls k a0.Src 6 _ h8) (fun _ h => h) (by kernel_rfl) (by kernel_rfl) rfl ?_
    obtain ⟨t9, h10, hM⟩ := bind_some hM
    refine QL.val (fun _ => run_catS (a := r5) (b := r7) (by kernel_rfl) (by kernel_rfl) h10) (by kernel_rfl) (by kernel_rfl) rfl ?_
    refine QL.run 1 [] [1, 2, 3, 5] [] [(1, .pointer (some ⟨b1, 0, none⟩)), (2, .string (⟨#[]⟩ : ByteArray)), (3, .int .i64 0), (5, .string t9)] (by kernel_rfl) ?_
    refine QL.done ?_
    refine WP.seqJoin (σ := ByteArray) (fun st => ether_Build.k2 a0 k st = some r) (fun st => [(1, .pointer (some ⟨b1, 0, none⟩)), (2, .string (⟨#[]⟩ : ByteArray)), (3, .int .i64 0), (5, .string st)]) (fun st => Sat w Z [(b1, .cells #[.int .u64 a0.Dst, .int .u64 a0.Src, .bool a0.Tag.Has, .int .i64 a0.Tag.Pri, .bool a0.Tag.Dei, .int .i64 a0.Tag.Vid, .int .i64 a0.Type_, .string a0.Body] 29 (0, 0))] [] Glob) (fun st hM => ?_) (fun K2 => ?_)
    ·
      obtain ⟨x22, rfl⟩ : ∃ y, y = st := ⟨st, rfl⟩
      replace hM : ether_Build.k2 a0 k x22 = some r := hM
      unfold ether_Build.k2 at hM
      show WP _ _ _ _ _ [(1, .pointer (some ⟨b1, 0, none⟩)), (2, .string (⟨#[]⟩ : ByteArray)), (3, .int .i64 0), (5, .string x22)] (Sat w Z [(b1, .cells #[.int .u64 a0.Dst, .int .u64 a0.Src, .bool a0.Tag.Has, .int .i64 a0.Tag.Pri, .bool a0.Tag.Dei, .int .i64 a0.Tag.Vid, .int .i64 a0.Type_, .string a0.Body] 29 (0, 0))] [] Glob)
      refine WP.seq ?_
      refine WP.run [0] [1, 2, 3, 5, 6] (fun _ => [(1, .pointer (some ⟨b1, 0, none⟩)), (2, .string (⟨#[]⟩ : ByteArray)), (3, .int .i64 0), (5, .string x22), (6, .int .i64 a0.Type_)]) (fun _ => [(b1, .cells #[.int .u64 a0.Dst, .int .u64 a0.Src, .bool a0.Tag.Has, .int .i64 a0.Tag.Pri, .bool a0.Tag.Dei, .int .i64 a0.Tag.Vid, .int .i64 a0.Type_, .string a0.Body] 29 (0, 0))]) (fun _ => [b1]) (fun _ => by kernel_rfl) (fun _ => ?_)
      refine WP.seqJoin (σ := Int) (fun st => ether_Build.k1 k x22 a0 st = some r) (fun st => [(1, .pointer (some ⟨b1, 0, none⟩)), (2, .string (⟨#[]⟩ : ByteArray)), (3, .int .i64 0), (5, .string x22), (6, .int .i64 st)]) (fun st => Sat w Z [(b1, .cells #[.int .u64 a0.Dst, .int .u64 a0.Src, .bool a0.Tag.Has, .int .i64 a0.Tag.Pri, .bool a0.Tag.Dei, .int .i64 a0.Tag.Vid, .int .i64 a0.Type_, .string a0.Body] 29 (0, 0))] [] Glob) (fun st hM => ?_) (fun K1 => ?_)
      ·
        obtain ⟨x24, rfl⟩ : ∃ y, y = st := ⟨st, rfl⟩
        replace hM : ether_Build.k1 k x22 a0 x24 = some r := hM
        unfold ether_Build.k1 at hM
        show WP _ _ _ _ _ [(1, .pointer (some ⟨b1, 0, none⟩)), (2, .string (⟨#[]⟩ : ByteArray)), (3, .int .i64 0), (5, .string x22), (6, .int .i64 x24)] (Sat w Z [(b1, .cells #[.int .u64 a0.Dst, .int .u64 a0.Src, .bool a0.Tag.Has, .int .i64 a0.Tag.Pri, .bool a0.Tag.Dei, .int .i64 a0.Tag.Vid, .int .i64 a0.Type_, .string a0.Body] 29 (0, 0))] [] Glob)
        refine WP.seq ?_
        refine WP.quiet (by kernel_rfl) (by kernel_rfl) ?_
        refine QL.run 3 [] [1, 2, 3, 37, 39] [] [(1, .pointer (some ⟨b1, 0, none⟩)), (2, .string (⟨#[]⟩ : ByteArray)), (3, .int .i64 0), (37, .string x22), (39, .int .u64 (u64 x24))] (by kernel_rfl) ?_
        obtain ⟨r25, h26, hM⟩ := bind_some hM
        refine QL.callP [] [] (ether_put_calls k (u64 x24) 2 _ h26) (fun _ h => h) (by kernel_rfl) (by kernel_rfl) rfl ?_
        obtain ⟨t27, h28, hM⟩ := bind_some hM
        refine QL.val (fun _ => run_catS (a := x22) (b := r25) (by kernel_rfl) (by kernel_rfl) h28) (by kernel_rfl) (by kernel_rfl) rfl ?_
        refine QL.run 2 [0] [2, 3, 41, 43] [b1] [(2, .string (⟨#[]⟩ : ByteArray)), (3, .int .i64 0), (41, .string t27), (43, .string a0.Body)] (by kernel_rfl) ?_
        obtain ⟨t29, h30, hM⟩ := bind_some hM
        refine QL.val (fun _ => run_catS (a := t27) (b := a0.Body) (by kernel_rfl) (by kernel_rfl) h30) (by kernel_rfl) (by kernel_rfl) rfl ?_
        refine QL.run 2 [] [2, 3] [] [(2, .string t29), (3, .int .i64 0)] (by kernel_rfl) ?_
        refine QL.done ?_
        refine WP.keep [false] (by kernel_rfl : _ = []) ?_
        obtain rfl := Option.some.inj hM
        exact WP.ret [] [] (.tuple #[.string t29, .int .i64 0]) (by kernel_rfl) (fun w' hw => ⟨rfl, hw.pick [] rfl⟩)
      ·
        refine WP.seq ?_
        refine WP.run [] [1, 2, 3, 5, 6, 33] (fun _ => [(1, .pointer (some ⟨b1, 0, none⟩)), (2, .string (⟨#[]⟩ : ByteArray)), (3, .int .i64 0), (5, .string x22), (6, .int .i64 a0.Type_), (33, .bool (a0.Type_ == 0))]) (fun _ => [(b1, .cells #[.int .u64 a0.Dst, .int .u64 a0.Src, .bool a0.Tag.Has, .int .i64 a0.Tag.Pri, .bool a0.Tag.Dei, .int .i64 a0.Tag.Vid, .int .i64 a0.Type_, .string a0.Body] 29 (0, 0))]) (fun _ => []) (fun _ => by kernel_rfl) (fun _ => ?_)
        refine WP.cond (a0.Type_ == 0) rfl rfl (fun c23 => ?_) (fun c23 => ?_)
        · replace hM := cond_t hM c23
          refine WP.run [0] [1, 2, 3, 5, 6] (fun _ => [(1, .pointer (some ⟨b1, 0, none⟩)), (2, .string (⟨#[]⟩ : ByteArray)), (3, .int .i64 0), (5, .string x22), (6, .int .i64 (a0.Body.size : Int))]) (fun _ => [(b1, .cells #[.int .u64 a0.Dst, .int .u64 a0.Src, .bool a0.Tag.Has, .int .i64 a0.Tag.Pri, .bool a0.Tag.Dei, .int .i64 a0.Tag.Vid, .int .i64 a0.Type_, .string a0.Body] 29 (0, 0))]) (fun _ => [b1]) (fun _ => by kernel_rfl) (fun _ => ?_)
          exact WP.sub [1, 2, 3, 5, 6] (by kernel_rfl) (WP.pick [0] (by kernel_rfl) (by kernel_rfl) (K1 (a0.Body.size : Int) hM))
        · replace hM := cond_f hM c23
          refine WP.skip ?_
          exact WP.sub [1, 2, 3, 5, 6] (by kernel_rfl) (WP.pick [0] (by kernel_rfl) (by kernel_rfl) (K1 a0.Type_ hM))
    ·
      refine WP.seq ?_
      refine WP.run [0] [1, 2, 3, 5, 21] (fun _ => [(1, .pointer (some ⟨b1, 0, none⟩)), (2, .string (⟨#[]⟩ : ByteArray)), (3, .int .i64 0), (5, .string t9), (21, .bool a0.Tag.Has)]) (fun _ => [(b1, .cells #[.int .u64 a0.Dst, .int .u64 a0.Src, .bool a0.Tag.Has, .int .i64 a0.Tag.Pri, .bool a0.Tag.Dei, .int .i64 a0.Tag.Vid, .int .i64 a0.Type_, .string a0.Body] 29 (0, 0))]) (fun _ => [b1]) (fun _ => by kernel_rfl) (fun _ => ?_)
      refine WP.cond a0.Tag.Has rfl rfl (fun c11 => ?_) (fun c11 => ?_)
      · replace hM := cond_t hM c11
        refine WP.quiet (by kernel_rfl) (by kernel_rfl) ?_
        refine QL.run 1 [] [1, 2, 3, 5, 22] [] [(1, .pointer (some ⟨b1, 0, none⟩)), (2, .string (⟨#[]⟩ : ByteArray)), (3, .int .i64 0), (5, .string t9), (22, .string t9)] (by kernel_rfl) ?_
        obtain ⟨r12, h13, hM⟩ := bind_some hM
        refine QL.callP [] [] (ether_put_calls k 33024 2 _ h13) (fun _ h => h) (by kernel_rfl) (by kernel_rfl) rfl ?_
        refine QL.run 2 [0, 0, 0, 0] [1, 2, 3, 5, 22, 23, 25] [b1, b1, b1, b1] [(1, .pointer (some ⟨b1, 0, none⟩)), (2, .string (⟨#[]⟩ : ByteArray)), (3, .int .i64 0), (5, .string t9), (22, .string t9), (23, .string r12), (25, .agg #[.bool a0.Tag.Has, .int .i64 a0.Tag.Pri, .bool a0.Tag.Dei, .int .i64 a0.Tag.Vid])] (by kernel_rfl) ?_
        obtain ⟨r14, h15, hM⟩ := bind_some hM
        refine QL.callP [] [] (ether_info_calls a0.Tag _ h15) (fun _ h => h) (by kernel_rfl) (by kernel_rfl) rfl ?_
        obtain ⟨r16, h17, hM⟩ := bind_some hM
        refine QL.callP [] [] (ether_put_calls k r14 2 _ h17) (fun _ h => h) (by kernel_rfl) (by kernel_rfl) rfl ?_
        obtain ⟨t18, h19, hM⟩ := bind_some hM
        refine QL.val (fun _ => run_catS (a := r12) (b := r16) (by kernel_rfl) (by kernel_rfl) h19) (by kernel_rfl) (by kernel_rfl) rfl ?_
        obtain ⟨t20, h21, hM⟩ := bind_some hM
        refine QL.val (fun _ => run_catS (a := t9) (b := t18) (by kernel_rfl) (by kernel_rfl) h21) (by kernel_rfl) (by kernel_rfl) rfl ?_
        refine QL.run 1 [] [1, 2, 3, 5] [] [(1, .pointer (some ⟨b1, 0, none⟩)), (2, .string (⟨#[]⟩ : ByteArray)), (3, .int .i64 0), (5, .string t20)] (by kernel_rfl) ?_
        refine QL.done ?_
        exact WP.sub [1, 2, 3, 5] (by kernel_rfl) (WP.pick [0] (by kernel_rfl) (by kernel_rfl) (K2 t20 hM))
      · replace hM := cond_f hM c11
        refine WP.skip ?_
        exact WP.sub [1, 2, 3, 5] (by kernel_rfl) (WP.pick [0] (by kernel_rfl) (by kernel_rfl) (K2 t9 hM))

end Go.Proofs.YtbodofjnfmjbpaaGreatDoor

namespace Go.Proofs.YtbodofjnfmjbpaaGreatDoor
open Go Eng
set_option linter.unusedVariables false
set_option linter.unusedSimpArgs false

/-! ### gangway/gangwaylaw22.five: function 25 -/
def gangwaylaw22_five.f : Option ((List api_Seg)) :=
  some ([(api_Seg.mk 5 1000 ([7, 8] : List Int))] : List api_Seg)

set_option maxRecDepth 100000 in
theorem gangwaylaw22_five_calls (r : (List api_Seg)) (h : gangwaylaw22_five.f = some r) : Does Tryz.prog 25 #[] [] ([] ++ Glob) (fun x : (SkL (SkL Unit)) => slcV x r.length) (fun x => []) (fun _ => []) (fun x => [Row 3 api_Seg.encS api_Seg.inK x r] ++ ([] ++ Glob)) := by
  intro w Z hS
  refine calls_of (args := []) (L := []) (N := 4) (S := Sat w Z [] [] ([] ++ Glob)) Tryz.func25 rfl rfl (Nat.le_of_ble_eq_true rfl) rfl hS ?_
  have hM := h
  clear h hS
  unfold gangwaylaw22_five.f at hM
  refine WP.seq ?_
  refine WP.run [] [0] (fun _ => [(0, .slice none 0 0)]) (fun _ => []) (fun _ => []) (fun _ => by kernel_rfl) (fun _ => ?_)
  refine WP.seq ?_
  refine WP.run [] [0] (fun b1 => [(0, .slice (some ⟨(b1 + 1), 0, none⟩) 1 1)]) (fun b1 => [(b1, .cells #[.int .u32 7, .int .u32 8] 22 (0, 0)), ((b1 + 1), .cells #[.int .i64 5, .int .i64 1000, .slice (some ⟨b1, 0, none⟩) 2 2] 35 (0, 0))]) (fun b1 => []) (fun b1 => by kernel_rfl) (fun b1 => ?_)
  refine WP.ice (H' := [((b1 + 1), .cells #[.int .i64 5, .int .i64 1000, slcV (SkL.at b1 2 (fun _ => ())) ([7, 8] : List Int).length] 35 (0, 0))]) (Row 1 (pl (encI .u32)) noK (SkL.at b1 2 (fun _ => ())) ([7, 8] : List Int)) 0 (b := b1) (ob := .cells #[.int .u32 7, .int .u32 8] 22 (0, 0)) (by kernel_rfl) [] [] (by kernel_rfl) (fun w hb hψ => row_of_block hb (fun _ _ => rfl) ⟨[], by kernel_rfl⟩ (Nat.le_of_ble_eq_true rfl) (InK.no _ _)) (by kernel_rfl) ?_
  refine WP.ice (H' := []) (Row 3 api_Seg.encS api_Seg.inK (SkL.at (b1 + 1) 1 (skF [(SkL.at b1 2 (fun _ => ()))] (SkL.nil (fun _ => ())))) ([(api_Seg.mk 5 1000 ([7, 8] : List Int))] : List api_Seg)) 0 (b := (b1 + 1)) (ob := .cells #[.int .i64 5, .int .i64 1000, slcV (SkL.at b1 2 (fun _ => ())) ([7, 8] : List Int).length] 35 (0, 0)) (by kernel_rfl) [0] [Row 1 (pl (encI .u32)) noK (SkL.at b1 2 (fun _ => ())) ([7, 8] : List Int)] (by kernel_rfl) (fun w hb hψ => row_of_block hb (fun _ _ => rfl) ⟨[], by kernel_rfl⟩ (Nat.le_of_ble_eq_true rfl) (And.intro (hψ _ (List.mem_of_getElem? (i := 0) rfl)) trivial)) (by kernel_rfl) ?_
  obtain rfl := Option.some.inj hM
  exact WP.ret [] [] (slcV (SkL.at (b1 + 1) 1 (skF [(SkL.at b1 2 (fun _ => ()))] (SkL.nil (fun _ => ())))) ([(api_Seg.mk 5 1000 ([7, 8] : List Int))] : List api_Seg).length) (by kernel_rfl) (fun w' hw => ⟨(SkL.at (b1 + 1) 1 (skF [(SkL.at b1 2 (fun _ => ()))] (SkL.nil (fun _ => ())))), rfl, (hw.pick [] (by kernel_rfl)).less (sub_ret [0] [] (by kernel_rfl) (by kernel_rfl))⟩)

end Go.Proofs.YtbodofjnfmjbpaaGreatDoor

namespace Go.Proofs.YtbodofjnfmjbpaaGreatDoor
open Go Eng
set_option linter.unusedVariables false
set_option linter.unusedSimpArgs false

/-! ### gangway/ether.Bare: function 17 -/
def ether_Bare.f (a0 : api_Frame) : Option (api_Frame) :=
  some (api_Frame.mk a0.Dst a0.Src (api_Tag.mk false 0 false 0) a0.Type_ a0.Body)

set_option maxRecDepth 100000 in
theorem ether_Bare_calls (a0 : api_Frame) (r : api_Frame) (h : ether_Bare.f a0 = some r) : Pure Tryz.prog Glob 17 #[.agg #[.int .u64 a0.Dst, .int .u64 a0.Src, .bool a0.Tag.Has, .int .i64 a0.Tag.Pri, .bool a0.Tag.Dei, .int .i64 a0.Tag.Vid, .int .i64 a0.Type_, .string a0.Body]] (.agg #[.int .u64 r.Dst, .int .u64 r.Src, .bool r.Tag.Has, .int .i64 r.Tag.Pri, .bool r.Tag.Dei, .int .i64 r.Tag.Vid, .int .i64 r.Type_, .string r.Body]) := by
  intro w Z hS
  refine calls_of (args := [.agg #[.int .u64 a0.Dst, .int .u64 a0.Src, .bool a0.Tag.Has, .int .i64 a0.Tag.Pri, .bool a0.Tag.Dei, .int .i64 a0.Tag.Vid, .int .i64 a0.Type_, .string a0.Body]]) (L := [(0, .agg #[.int .u64 a0.Dst, .int .u64 a0.Src, .bool a0.Tag.Has, .int .i64 a0.Tag.Pri, .bool a0.Tag.Dei, .int .i64 a0.Tag.Vid, .int .i64 a0.Type_, .string a0.Body])]) (N := 6) (S := Sat w Z [] [] Glob) Tryz.func17 rfl rfl (Nat.le_of_ble_eq_true rfl) rfl hS ?_
  have hM := h
  clear h hS
  unfold ether_Bare.f at hM
  refine WP.seq ?_
  refine WP.run [] [1, 2] (fun b1 => [(1, .pointer (some ⟨b1, 0, none⟩)), (2, .pointer (some ⟨(b1 + 1), 0, none⟩))]) (fun b1 => [(b1, .cells #[.int .u64 a0.Dst, .int .u64 a0.Src, .bool a0.Tag.Has, .int .i64 a0.Tag.Pri, .bool a0.Tag.Dei, .int .i64 a0.Tag.Vid, .int .i64 a0.Type_, .string a0.Body] 29 (0, 0)), ((b1 + 1), .cells #[.int .u64 0, .int .u64 0, .bool false, .int .i64 0, .bool false, .int .i64 0, .int .i64 0, .string (⟨#[]⟩ : ByteArray)] 29 (0, 0))]) (fun b1 => []) (fun b1 => by kernel_rfl) (fun b1 => ?_)
  refine WP.seq ?_
  refine WP.run [0, 0, 0, 0] [1, 2] (fun _ => [(1, .pointer (some ⟨b1, 0, none⟩)), (2, .pointer (some ⟨(b1 + 1), 0, none⟩))]) (fun _ => [(b1, .cells #[.int .u64 a0.Dst, .int .u64 a0.Src, .bool false, .int .i64 0, .bool false, .int .i64 0, .int .i64 a0.Type_, .string a0.Body] 29 (0, 0)), ((b1 + 1), .cells #[.int .u64 0, .int .u64 0, .bool false, .int .i64 0, .bool false, .int .i64 0, .int .i64 0, .string (⟨#[]⟩ : ByteArray)] 29 (0, 0))]) (fun _ => [b1, b1, b1, b1]) (fun _ => by kernel_rfl) (fun _ => ?_)
  refine WP.seq ?_
  refine WP.run [0, 0, 0, 0, 0, 0, 0, 0, 1, 1, 1, 1, 1, 1, 1, 1] [2] (fun _ => [(2, .pointer (some ⟨(b1 + 1), 0, none⟩))]) (fun _ => [(b1, .cells #[.int .u64 a0.Dst, .int .u64 a0.Src, .bool false, .int .i64 0, .bool false, .int .i64 0, .int .i64 a0.Type_, .string a0.Body] 29 (0, 0)), ((b1 + 1), .cells #[.int .u64 a0.Dst, .int .u64 a0.Src, .bool false, .int .i64 0, .bool false, .int .i64 0, .int .i64 a0.Type_, .string a0.Body] 29 (0, 0))]) (fun _ => [(b1 + 1), (b1 + 1), (b1 + 1), (b1 + 1), (b1 + 1), (b1 + 1), (b1 + 1), (b1 + 1), b1, b1, b1, b1, b1, b1, b1, b1]) (fun _ => by kernel_rfl) (fun _ => ?_)
  refine WP.keep [false, true] (by kernel_rfl : _ = [((b1 + 1), .cells #[.int .u64 a0.Dst, .int .u64 a0.Src, .bool false, .int .i64 0, .bool false, .int .i64 0, .int .i64 a0.Type_, .string a0.Body] 29 (0, 0))]) ?_
  obtain rfl := Option.some.inj hM
  exact WP.ret [0, 0, 0, 0, 0, 0, 0, 0] [(b1 + 1), (b1 + 1), (b1 + 1), (b1 + 1), (b1 + 1), (b1 + 1), (b1 + 1), (b1 + 1)] (.agg #[.int .u64 a0.Dst, .int .u64 a0.Src, .bool false, .int .i64 0, .bool false, .int .i64 0, .int .i64 a0.Type_, .string a0.Body]) (by kernel_rfl) (fun w' hw => ⟨rfl, hw.pick [] rfl⟩)

end Go.Proofs.YtbodofjnfmjbpaaGreatDoor

namespace Go.Proofs.YtbodofjnfmjbpaaGreatDoor
open Go Eng
set_option linter.unusedVariables false
set_option linter.unusedSimpArgs false

/-! ### gangway/vxlan.Build: function 18 -/
def vxlan_Build.f (k : Nat) (a0 : Int) (a1 : ByteArray) : Option (ByteArray × Int) :=
  bif ((decide (a0 < 0)) || (decide (a0 > 16777215))) then
    some ((⟨#[]⟩ : ByteArray), 1)
  else
    (octets_Put.f k (u64 a0) 3).bind fun (r2, r3) =>
    (catS (ByteArray.push (ByteArray.push (ByteArray.push (ByteArray.push ByteArray.empty (UInt8.ofNat (Int.toNat 8))) (UInt8.ofNat (Int.toNat 0))) (UInt8.ofNat (Int.toNat 0))) (UInt8.ofNat (Int.toNat 0))) r2).bind fun t6 =>
    (catS t6 (⟨#[0]⟩ : ByteArray)).bind fun t8 =>
    (catS t8 a1).bind fun t10 =>
    some (t10, 0)

set_option maxRecDepth 100000 in
theorem vxlan_Build_calls (k : Nat) (a0 : Int) (a1 : ByteArray) (r : ByteArray × Int) (h : vxlan_Build.f k a0 a1 = some r) : Pure Tryz.prog Glob 18 #[.int .i64 a0, .string a1] (.tuple #[.string r.1, .int .i64 r.2]) := by
  intro w Z hS
  refine calls_of (args := [.int .i64 a0, .string a1]) (L := [(0, .int .i64 a0), (1, .string a1)]) (N := 27) (S := Sat w Z [] [] Glob) Tryz.func18 rfl rfl (Nat.le_of_ble_eq_true rfl) rfl hS ?_
  have hM := h
  clear h hS
  unfold vxlan_Build.f at hM
  refine WP.seq ?_
  refine WP.run [] [0, 1, 4, 5] (fun _ => [(0, .int .i64 a0), (1, .string a1), (4, .string (⟨#[]⟩ : ByteArray)), (5, .int .i64 0)]) (fun _ => []) (fun _ => []) (fun _ => by kernel_rfl) (fun _ => ?_)
  refine WP.seq ?_
  refine WP.seq ?_
  refine WP.region ?_
  refine WL.run 3 [] [0, 1, 4, 5, 10] (fun _ => [(0, .int .i64 a0), (1, .string a1), (4, .string (⟨#[]⟩ : ByteArray)), (5, .int .i64 0), (10, .bool (decide (a0 < 0)))]) (fun _ => []) (fun _ => []) (fun _ => by kernel_rfl) (fun _ => ?_)
  refine WL.sub [0, 1, 4, 5, 10] (L' := [(0, .int .i64 a0), (1, .string a1), (4, .string (⟨#[]⟩ : ByteArray)), (5, .int .i64 0), (10, .bool (decide (a0 < 0)))]) (by kernel_rfl) ?_
  refine WL.both (fun b' => [(0, .int .i64 a0), (1, .string a1), (4, .string (⟨#[]⟩ : ByteArray)), (5, .int .i64 0), (10, .bool b')]) (decide (a0 < 0)) 3 [] [] [0, 1, 4, 5, 13] (fun b' => [(0, .int .i64 a0), (1, .string a1), (4, .string (⟨#[]⟩ : ByteArray)), (5, .int .i64 0), (13, .bool (b' || (decide (a0 > 16777215))))]) [] [] (fun _ => by kernel_rfl) (fun _ => by kernel_rfl) ?_
  refine WP.done ?_
  refine WP.cond ((decide (a0 < 0)) || (decide (a0 > 16777215))) rfl rfl (fun c1 => ?_) (fun c1 => ?_)
  · replace hM := cond_t hM c1
    refine WP.seq ?_
    refine WP.run [] [0, 1, 4, 5] (fun _ => [(0, .int .i64 a0), (1, .string a1), (4, .string (⟨#[]⟩ : ByteArray)), (5, .int .i64 1)]) (fun _ => []) (fun _ => []) (fun _ => by kernel_rfl) (fun _ => ?_)
    obtain rfl := Option.some.inj hM
    exact WP.ret [] [] (.tuple #[.string (⟨#[]⟩ : ByteArray), .int .i64 1]) (by kernel_rfl) (fun w' hw => ⟨rfl, hw.pick [] rfl⟩)
  · replace hM := cond_f hM c1
    refine WP.skip ?_
    refine WP.seq ?_
    refine WP.region ?_
    refine WL.run 2 [] [1, 4, 5, 16] (fun _ => [(1, .string a1), (4, .string (⟨#[]⟩ : ByteArray)), (5, .int .i64 0), (16, .int .u64 (u64 a0))]) (fun _ => []) (fun _ => []) (fun _ => by kernel_rfl) (fun _ => ?_)
    obtain ⟨⟨r2, r3⟩, h4, hM⟩ := bind_some hM
    dsimp only at hM
    refine WL.callP [] [] (octets_Put_calls k (u64 a0) 3 _ h4) (fun _ h => h) (by kernel_rfl) (by kernel_rfl) rfl ?_
    refine WL.run 5 [] [1, 4, 5, 6] (fun _ => [(1, .string a1), (4, .string (⟨#[]⟩ : ByteArray)), (5, .int .i64 0), (6, .string r2)]) (fun _ => []) (fun _ => []) (fun _ => by kernel_rfl) (fun _ => ?_)
    refine WP.done ?_
    refine WP.seq ?_
    refine WP.region ?_
    refine WL.run 3 [0, 0, 0, 0] [1, 4, 5, 21, 22] (fun b5 => [(1, .string a1), (4, .string (⟨#[]⟩ : ByteArray)), (5, .int .i64 0), (21, .string (ByteArray.push (ByteArray.push (ByteArray.push (ByteArray.push ByteArray.empty (UInt8.ofNat (Int.toNat 8))) (UInt8.ofNat (Int.toNat 0))) (UInt8.ofNat (Int.toNat 0))) (UInt8.ofNat (Int.toNat 0)))), (22, .string r2)]) (fun b5 => [(b5, .cells #[.int .u8 8, .int .u8 0, .int .u8 0, .int .u8 0] 5 (0, 0))]) (fun b5 => [b5, b5, b5, b5]) (fun b5 => by kernel_rfl) (fun b5 => ?_)
    obtain ⟨t6, h7, hM⟩ := bind_some hM
    refine WL.val (fun _ => run_catS (a := (ByteArray.push (ByteArray.push (ByteArray.push (ByteArray.push ByteArray.empty (UInt8.ofNat (Int.toNat 8))) (UInt8.ofNat (Int.toNat 0))) (UInt8.ofNat (Int.toNat 0))) (UInt8.ofNat (Int.toNat 0)))) (b := r2) (by kernel_rfl) (by kernel_rfl) h7) (by kernel_rfl) (by kernel_rfl) rfl ?_
    obtain ⟨t8, h9, hM⟩ := bind_some hM
    refine WL.val (fun _ => run_catS (a := t6) (b := (⟨#[0]⟩ : ByteArray)) (by kernel_rfl) (by kernel_rfl) h9) (by kernel_rfl) (by kernel_rfl) rfl ?_
    refine WL.run 1 [] [4, 5, 24, 25] (fun _ => [(4, .string (⟨#[]⟩ : ByteArray)), (5, .int .i64 0), (24, .string t8), (25, .string a1)]) (fun _ => [(b5, .cells #[.int .u8 8, .int .u8 0, .int .u8 0, .int .u8 0] 5 (0, 0))]) (fun _ => []) (fun _ => by kernel_rfl) (fun _ => ?_)
    obtain ⟨t10, h11, hM⟩ := bind_some hM
    refine WL.val (fun _ => run_catS (a := t8) (b := a1) (by kernel_rfl) (by kernel_rfl) h11) (by kernel_rfl) (by kernel_rfl) rfl ?_
    refine WL.run 2 [] [4, 5] (fun _ => [(4, .string t10), (5, .int .i64 0)]) (fun _ => [(b5, .cells #[.int .u8 8, .int .u8 0, .int .u8 0, .int .u8 0] 5 (0, 0))]) (fun _ => []) (fun _ => by kernel_rfl) (fun _ => ?_)
    refine WP.done ?_
    refine WP.keep [false] (by kernel_rfl : _ = []) ?_
    obtain rfl := Option.some.inj hM
    exact WP.ret [] [] (.tuple #[.string t10, .int .i64 0]) (by kernel_rfl) (fun w' hw => ⟨rfl, hw.pick [] rfl⟩)

end Go.Proofs.YtbodofjnfmjbpaaGreatDoor

namespace Go.Proofs.YtbodofjnfmjbpaaGreatDoor
open Go Eng
set_option linter.unusedVariables false
set_option linter.unusedSimpArgs false

/-! ### gangway/vxlan.Hash: function 39 -/
def vxlan_Hash.l1 (a0 : ByteArray) : Nat → Int → Int → Option (Int)
  | 0, _, _ => none
  | n + 1, x1, x2 =>
    bif decide (x2 < (a0.size : Int)) then
      (idxS a0 x2).bind fun t4 =>
      vxlan_Hash.l1 a0 n (u32 ((bXor .u32 x1 (u32 t4)) * 16777619)) (i64 (x2 + 1))
    else
      some x1

def vxlan_Hash.f (k : Nat) (a0 : ByteArray) : Option (Int) :=
  vxlan_Hash.l1 a0 k 2166136261 0

set_option maxRecDepth 100000 in
theorem vxlan_Hash_calls (k : Nat) (a0 : ByteArray) (r : Int) (h : vxlan_Hash.f k a0 = some r) : Pure Tryz.prog Glob 39 #[.string a0] (.int .u32 r) := by
  intro w Z hS
  refine calls_of (args := [.string a0]) (L := [(0, .string a0)]) (N := 19) (S := Sat w Z [] [] Glob) Tryz.func39 rfl rfl (Nat.le_of_ble_eq_true rfl) rfl hS ?_
  have hM := h
  clear h hS
  unfold vxlan_Hash.f at hM
  refine WP.seq ?_
  refine WP.run [] [0, 2] (fun _ => [(0, .string a0), (2, .int .u32 0)]) (fun _ => []) (fun _ => []) (fun _ => by kernel_rfl) (fun _ => ?_)
  refine WP.seq ?_
  refine WP.run [] [0, 2, 3] (fun _ => [(0, .string a0), (2, .int .u32 0), (3, .int .u32 2166136261)]) (fun _ => []) (fun _ => []) (fun _ => by kernel_rfl) (fun _ => ?_)
  refine WP.seq ?_
  refine WP.seq ?_
  refine WP.run [] [0, 2, 3, 6, 7] (fun _ => [(0, .string a0), (2, .int .u32 0), (3, .int .u32 2166136261), (6, .int .i64 (a0.size : Int)), (7, .int .i64 0)]) (fun _ => []) (fun _ => []) (fun _ => by kernel_rfl) (fun _ => ?_)
  refine WP.block ?_
  refine WP.sub [0, 2, 3, 6, 7] (L' := [(0, .string a0), (2, .int .u32 0), (3, .int .u32 2166136261), (6, .int .i64 (a0.size : Int)), (7, .int .i64 0)]) (by kernel_rfl) ?_
  refine WP.loop (σ := Int × Int) (fun n st => vxlan_Hash.l1 a0 n st.1 st.2) r (fun st => [(0, .string a0), (2, .int .u32 0), (3, .int .u32 st.1), (6, .int .i64 (a0.size : Int)), (7, .int .i64 st.2)]) (fun st => Sat w Z [] [] Glob) (st := (2166136261, 0)) (fun n st hM => ?_) hM
  rcases n with _ | n
  · exact nomatch (show (none : Option _) = some r from hM)
  obtain ⟨x1, x2⟩ := st
  replace hM : vxlan_Hash.l1 a0 (n + 1) x1 x2 = some r := hM
  rw [vxlan_Hash.l1] at hM
  show WP _ _ _ _ _ [(0, .string a0), (2, .int .u32 0), (3, .int .u32 x1), (6, .int .i64 (a0.size : Int)), (7, .int .i64 x2)] (Sat w Z [] [] Glob)
  refine WP.seq ?_
  refine WP.run [] [0, 2, 3, 6, 7, 8] (fun _ => [(0, .string a0), (2, .int .u32 0), (3, .int .u32 x1), (6, .int .i64 (a0.size : Int)), (7, .int .i64 x2), (8, .bool (decide (x2 < (a0.size : Int))))]) (fun _ => []) (fun _ => []) (fun _ => by kernel_rfl) (fun _ => ?_)
  refine WP.seq ?_
  refine WP.cond (decide (x2 < (a0.size : Int))) rfl rfl (fun c3 => ?_) (fun c3 => ?_)
  · replace hM := cond_t hM c3
    refine WP.skip ?_
    refine WP.seq ?_
    refine WP.block ?_
    refine WP.seq ?_
    refine WP.run [] [0, 2, 3, 4, 6, 7, 8, 9] (fun _ => [(0, .string a0), (2, .int .u32 0), (3, .int .u32 x1), (4, .int .i64 x2), (6, .int .i64 (a0.size : Int)), (7, .int .i64 x2), (8, .bool (decide (x2 < (a0.size : Int)))), (9, .int .i64 x2)]) (fun _ => []) (fun _ => []) (fun _ => by kernel_rfl) (fun _ => ?_)
    refine WP.region ?_
    refine WL.run 3 [] [0, 2, 3, 4, 6, 7, 8, 9, 10, 11, 12] (fun _ => [(0, .string a0), (2, .int .u32 0), (3, .int .u32 x1), (4, .int .i64 x2), (6, .int .i64 (a0.size : Int)), (7, .int .i64 x2), (8, .bool (decide (x2 < (a0.size : Int)))), (9, .int .i64 x2), (10, .int .u32 x1), (11, .string a0), (12, .int .i64 x2)]) (fun _ => []) (fun _ => []) (fun _ => by kernel_rfl) (fun _ => ?_)
    obtain ⟨t4, h5, hM⟩ := bind_some hM
    refine WL.val (fun _ => run_idxS (s := a0) (k := .i64) (i := x2) (by kernel_rfl) (by kernel_rfl) (by kernel_rfl) h5) (by kernel_rfl) (by kernel_rfl) rfl ?_
    refine WL.run 4 [] [0, 2, 3, 4, 6, 7, 8, 9, 10, 11, 12, 13, 14, 15, 16] (fun _ => [(0, .string a0), (2, .int .u32 0), (3, .int .u32 (u32 ((bXor .u32 x1 (u32 t4)) * 16777619))), (4, .int .i64 x2), (6, .int .i64 (a0.size : Int)), (7, .int .i64 x2), (8, .bool (decide (x2 < (a0.size : Int)))), (9, .int .i64 x2), (10, .int .u32 x1), (11, .string a0), (12, .int .i64 x2), (13, .int .u8 t4), (14, .int .u32 (u32 t4)), (15, .int .u32 (bXor .u32 x1 (u32 t4))), (16, .int .u32 (u32 ((bXor .u32 x1 (u32 t4)) * 16777619)))]) (fun _ => []) (fun _ => []) (fun _ => by kernel_rfl) (fun _ => ?_)
    refine WP.done ?_
    refine WP.leave ?_
    refine WP.run [] [0, 2, 3, 4, 6, 7, 8, 9, 10, 11, 12, 13, 14, 15, 16, 17] (fun _ => [(0, .string a0), (2, .int .u32 0), (3, .int .u32 (u32 ((bXor .u32 x1 (u32 t4)) * 16777619))), (4, .int .i64 x2), (6, .int .i64 (a0.size : Int)), (7, .int .i64 (i64 (x2 + 1))), (8, .bool (decide (x2 < (a0.size : Int)))), (9, .int .i64 x2), (10, .int .u32 x1), (11, .string a0), (12, .int .i64 x2), (13, .int .u8 t4), (14, .int .u32 (u32 t4)), (15, .int .u32 (bXor .u32 x1 (u32 t4))), (16, .int .u32 (u32 ((bXor .u32 x1 (u32 t4)) * 16777619))), (17, .int .i64 (i64 (x2 + 1)))]) (fun _ => []) (fun _ => []) (fun _ => by kernel_rfl) (fun _ => ?_)
    exact WP.again' [0, 2, 3, 6, 7] (u32 ((bXor .u32 x1 (u32 t4)) * 16777619), i64 (x2 + 1)) hM (by kernel_rfl) (fun _ h => h.pick [] (by kernel_rfl))
  · replace hM := cond_f hM c3
    refine WP.exit rfl ?_
    refine WP.seq ?_
    refine WP.run [] [2] (fun _ => [(2, .int .u32 x1)]) (fun _ => []) (fun _ => []) (fun _ => by kernel_rfl) (fun _ => ?_)
    obtain rfl := Option.some.inj hM
    exact WP.ret [] [] (.int .u32 x1) (by kernel_rfl) (fun w' hw => ⟨rfl, hw.pick [] rfl⟩)

end Go.Proofs.YtbodofjnfmjbpaaGreatDoor

namespace Go.Proofs.YtbodofjnfmjbpaaGreatDoor
open Go Eng
set_option linter.unusedVariables false
set_option linter.unusedSimpArgs false

/-! ### gangway/vxlan.Port: function 19 -/
def vxlan_Port.f (k : Nat) (a0 : ByteArray) : Option (Int) :=
  (sliceS a0 0 (imin (a0.size : Int) 14)).bind fun t1 =>
  (vxlan_Hash.f k t1).bind fun r3 =>
  some (i64 (49152 + (i64 (Int.tmod r3 16384))))

set_option maxRecDepth 100000 in
theorem vxlan_Port_calls (k : Nat) (a0 : ByteArray) (r : Int) (h : vxlan_Port.f k a0 = some r) : Pure Tryz.prog Glob 19 #[.string a0] (.int .i64 r) := by
  intro w Z hS
  refine calls_of (args := [.string a0]) (L := [(0, .string a0)]) (N := 12) (S := Sat w Z [] [] Glob) Tryz.func19 rfl rfl (Nat.le_of_ble_eq_true rfl) rfl hS ?_
  have hM := h
  clear h hS
  unfold vxlan_Port.f at hM
  refine WP.seq ?_
  refine WP.run [] [0, 2] (fun _ => [(0, .string a0), (2, .int .i64 0)]) (fun _ => []) (fun _ => []) (fun _ => by kernel_rfl) (fun _ => ?_)
  refine WP.seq ?_
  refine WP.region ?_
  refine WL.run 4 [] [2, 3, 6] (fun _ => [(2, .int .i64 0), (3, .string a0), (6, .int .i64 (imin (a0.size : Int) 14))]) (fun _ => []) (fun _ => []) (fun _ => by kernel_rfl) (fun _ => ?_)
  obtain ⟨t1, h2, hM⟩ := bind_some hM
  refine WL.val (fun _ => run_sliceS_hi (s := a0) (kh := .i64) (h := imin (a0.size : Int) 14) (by kernel_rfl) (by kernel_rfl) (by kernel_rfl) h2) (by kernel_rfl) (by kernel_rfl) rfl ?_
  obtain ⟨r3, h4, hM⟩ := bind_some hM
  refine WL.callP [] [] (vxlan_Hash_calls k t1 _ h4) (fun _ h => h) (by kernel_rfl) (by kernel_rfl) rfl ?_
  refine WL.run 4 [] [2] (fun _ => [(2, .int .i64 (i64 (49152 + (i64 (Int.tmod r3 16384)))))]) (fun _ => []) (fun _ => []) (fun _ => by kernel_rfl) (fun _ => ?_)
  refine WP.done ?_
  obtain rfl := Option.some.inj hM
  exact WP.ret [] [] (.int .i64 (i64 (49152 + (i64 (Int.tmod r3 16384))))) (by kernel_rfl) (fun w' hw => ⟨rfl, hw.pick [] rfl⟩)

end Go.Proofs.YtbodofjnfmjbpaaGreatDoor

namespace Go.Proofs.YtbodofjnfmjbpaaGreatDoor
open Go Eng
set_option linter.unusedVariables false
set_option linter.unusedSimpArgs false

/-! ### gangway/udp.Check$1: function 95 -/
def udp_Check_1.f (a0 : Int) : Option (Bool) :=
  some ((decide (a0 ≥ 0)) && (decide (a0 < 65536)))

set_option maxRecDepth 100000 in
theorem udp_Check_1_calls (a0 : Int) (r : Bool) (h : udp_Check_1.f a0 = some r) : Pure Tryz.prog Glob 95 #[.int .i64 a0] (.bool r) := by
  intro w Z hS
  refine calls_of (args := [.int .i64 a0]) (L := [(0, .int .i64 a0)]) (N := 9) (S := Sat w Z [] [] Glob) Tryz.func95 rfl rfl (Nat.le_of_ble_eq_true rfl) rfl hS ?_
  have hM := h
  clear h hS
  unfold udp_Check_1.f at hM
  refine WP.seq ?_
  refine WP.run [] [0, 2] (fun _ => [(0, .int .i64 a0), (2, .bool false)]) (fun _ => []) (fun _ => []) (fun _ => by kernel_rfl) (fun _ => ?_)
  refine WP.seq ?_
  refine WP.region ?_
  refine WL.run 3 [] [0, 2, 5] (fun _ => [(0, .int .i64 a0), (2, .bool false), (5, .bool (decide (a0 ≥ 0)))]) (fun _ => []) (fun _ => []) (fun _ => by kernel_rfl) (fun _ => ?_)
  refine WL.sub [0, 2, 5] (L' := [(0, .int .i64 a0), (2, .bool false), (5, .bool (decide (a0 ≥ 0)))]) (by kernel_rfl) ?_
  refine WL.both (fun b' => [(0, .int .i64 a0), (2, .bool false), (5, .bool b')]) (decide (a0 ≥ 0)) 3 [] [] [2, 8] (fun b' => [(2, .bool false), (8, .bool (b' && (decide (a0 < 65536))))]) [] [] (fun _ => by kernel_rfl) (fun _ => by kernel_rfl) ?_
  refine WL.run 1 [] [2] (fun _ => [(2, .bool ((decide (a0 ≥ 0)) && (decide (a0 < 65536))))]) (fun _ => []) (fun _ => []) (fun _ => by kernel_rfl) (fun _ => ?_)
  refine WP.done ?_
  obtain rfl := Option.some.inj hM
  exact WP.ret [] [] (.bool ((decide (a0 ≥ 0)) && (decide (a0 < 65536)))) (by kernel_rfl) (fun w' hw => ⟨rfl, hw.pick [] rfl⟩)

end Go.Proofs.YtbodofjnfmjbpaaGreatDoor

namespace Go.Proofs.YtbodofjnfmjbpaaGreatDoor
open Go Eng
set_option linter.unusedVariables false
set_option linter.unusedSimpArgs false

/-! ### gangway/udp.Check: function 65 -/
def udp_Check.k1 (a0 : api_Udp) (x7 : Bool) : Option (Int) :=
  bif (x7 && (decide ((a0.Body.size : Int) ≤ 65507))) then
    some 0
  else
    some 71

def udp_Check.f (a0 : api_Udp) : Option (Int) :=
  (udp_Check_1.f a0.Src).bind fun r2 =>
  bif r2 then
    (udp_Check_1.f a0.Dst).bind fun r5 =>
    udp_Check.k1 a0 r5
  else
    udp_Check.k1 a0 false

set_option maxRecDepth 100000 in
theorem udp_Check_calls (a0 : api_Udp) (r : Int) (h : udp_Check.f a0 = some r) : Pure Tryz.prog Glob 65 #[.agg #[.int .i64 a0.Src, .int .i64 a0.Dst, .bool a0.NoSum, .string a0.Body]] (.int .i64 r) := by
  intro w Z hS
  refine calls_of (args := [.agg #[.int .i64 a0.Src, .int .i64 a0.Dst, .bool a0.NoSum, .string a0.Body]]) (L := [(0, .agg #[.int .i64 a0.Src, .int .i64 a0.Dst, .bool a0.NoSum, .string a0.Body])]) (N := 20) (S := Sat w Z [] [] Glob) Tryz.func65 rfl rfl (Nat.le_of_ble_eq_true rfl) rfl hS ?_
  have hM := h
  clear h hS
  unfold udp_Check.f at hM
  refine WP.seq ?_
  refine WP.run [] [1, 2] (fun b1 => [(1, .pointer (some ⟨b1, 0, none⟩)), (2, .int .i64 0)]) (fun b1 => [(b1, .cells #[.int .i64 a0.Src, .int .i64 a0.Dst, .bool a0.NoSum, .string a0.Body] 40 (0, 0))]) (fun b1 => []) (fun b1 => by kernel_rfl) (fun b1 => ?_)
  refine WP.seq ?_
  refine WP.run [] [1, 2, 3] (fun _ => [(1, .pointer (some ⟨b1, 0, none⟩)), (2, .int .i64 0), (3, .func (.func 95) #[] #[])]) (fun _ => [(b1, .cells #[.int .i64 a0.Src, .int .i64 a0.Dst, .bool a0.NoSum, .string a0.Body] 40 (0, 0))]) (fun _ => []) (fun _ => by kernel_rfl) (fun _ => ?_)
  refine WP.seq ?_
  refine WP.seq ?_
  refine WP.region ?_
  refine WL.run 3 [0] [1, 2, 3, 4, 6] (fun _ => [(1, .pointer (some ⟨b1, 0, none⟩)), (2, .int .i64 0), (3, .func (.func 95) #[] #[]), (4, .func (.func 95) #[] #[]), (6, .int .i64 a0.Src)]) (fun _ => [(b1, .cells #[.int .i64 a0.Src, .int .i64 a0.Dst, .bool a0.NoSum, .string a0.Body] 40 (0, 0))]) (fun _ => [b1]) (fun _ => by kernel_rfl) (fun _ => ?_)
  obtain ⟨r2, h3, hM⟩ := bind_some hM
  refine WL.callP [] [] (udp_Check_1_calls a0.Src _ h3) (fun _ h => h) (by kernel_rfl) (by kernel_rfl) rfl ?_
  refine WL.run 1 [] [1, 2, 3, 8] (fun _ => [(1, .pointer (some ⟨b1, 0, none⟩)), (2, .int .i64 0), (3, .func (.func 95) #[] #[]), (8, .bool r2)]) (fun _ => [(b1, .cells #[.int .i64 a0.Src, .int .i64 a0.Dst, .bool a0.NoSum, .string a0.Body] 40 (0, 0))]) (fun _ => []) (fun _ => by kernel_rfl) (fun _ => ?_)
  refine WL.sub [1, 2, 3, 8] (L' := [(1, .pointer (some ⟨b1, 0, none⟩)), (2, .int .i64 0), (3, .func (.func 95) #[] #[]), (8, .bool r2)]) (by kernel_rfl) ?_
  refine WL.join (σ := Bool) 5 (fun st => udp_Check.k1 a0 st = some r) (fun st => [(1, .pointer (some ⟨b1, 0, none⟩)), (2, .int .i64 0), (13, .bool st)]) (fun st => Sat w Z [(b1, .cells #[.int .i64 a0.Src, .int .i64 a0.Dst, .bool a0.NoSum, .string a0.Body] 40 (0, 0))] [] Glob) (fun st hM => ?_) (fun K1 => ?_)
  ·
    obtain ⟨x7, rfl⟩ : ∃ y, y = st := ⟨st, rfl⟩
    replace hM : udp_Check.k1 a0 x7 = some r := hM
    unfold udp_Check.k1 at hM
    show WL _ _ _ _ _ [(1, .pointer (some ⟨b1, 0, none⟩)), (2, .int .i64 0), (13, .bool x7)] (Sat w Z [(b1, .cells #[.int .i64 a0.Src, .int .i64 a0.Dst, .bool a0.NoSum, .string a0.Body] 40 (0, 0))] [] Glob)
    refine WL.run 1 [] [1, 2, 14] (fun _ => [(1, .pointer (some ⟨b1, 0, none⟩)), (2, .int .i64 0), (14, .bool x7)]) (fun _ => [(b1, .cells #[.int .i64 a0.Src, .int .i64 a0.Dst, .bool a0.NoSum, .string a0.Body] 40 (0, 0))]) (fun _ => []) (fun _ => by kernel_rfl) (fun _ => ?_)
    refine WL.sub [1, 2, 14] (L' := [(1, .pointer (some ⟨b1, 0, none⟩)), (2, .int .i64 0), (14, .bool x7)]) (by kernel_rfl) ?_
    refine WL.both (fun b' => [(1, .pointer (some ⟨b1, 0, none⟩)), (2, .int .i64 0), (14, .bool b')]) x7 5 [0] [] [2, 19] (fun b' => [(2, .int .i64 0), (19, .bool (b' && (decide ((a0.Body.size : Int) ≤ 65507))))]) [b1] [] (fun _ => by kernel_rfl) (fun _ => by kernel_rfl) ?_
    refine WP.done ?_
    refine WP.keep [false] (by kernel_rfl : _ = []) ?_
    refine WP.cond (x7 && (decide ((a0.Body.size : Int) ≤ 65507))) rfl rfl (fun c8 => ?_) (fun c8 => ?_)
    · replace hM := cond_t hM c8
      refine WP.seq ?_
      refine WP.run [] [2] (fun _ => [(2, .int .i64 0)]) (fun _ => []) (fun _ => []) (fun _ => by kernel_rfl) (fun _ => ?_)
      obtain rfl := Option.some.inj hM
      exact WP.ret [] [] (.int .i64 0) (by kernel_rfl) (fun w' hw => ⟨rfl, hw.pick [] rfl⟩)
    · replace hM := cond_f hM c8
      refine WP.skip ?_
      refine WP.seq ?_
      refine WP.run [] [2] (fun _ => [(2, .int .i64 71)]) (fun _ => []) (fun _ => []) (fun _ => by kernel_rfl) (fun _ => ?_)
      obtain rfl := Option.some.inj hM
      exact WP.ret [] [] (.int .i64 71) (by kernel_rfl) (fun w' hw => ⟨rfl, hw.pick [] rfl⟩)
  ·
    refine WL.split (fun b' => [(1, .pointer (some ⟨b1, 0, none⟩)), (2, .int .i64 0), (3, .func (.func 95) #[] #[]), (8, .bool b')]) r2 (fun c4 => ?_) (fun c4 => ?_)
    · replace hM := cond_t hM c4
      refine WL.run 3 [0] [1, 2, 8, 9, 11] (fun _ => [(1, .pointer (some ⟨b1, 0, none⟩)), (2, .int .i64 0), (8, .bool true), (9, .func (.func 95) #[] #[]), (11, .int .i64 a0.Dst)]) (fun _ => [(b1, .cells #[.int .i64 a0.Src, .int .i64 a0.Dst, .bool a0.NoSum, .string a0.Body] 40 (0, 0))]) (fun _ => [b1]) (fun _ => by kernel_rfl) (fun _ => ?_)
      obtain ⟨r5, h6, hM⟩ := bind_some hM
      refine WL.callP [] [] (udp_Check_1_calls a0.Dst _ h6) (fun _ h => h) (by kernel_rfl) (by kernel_rfl) rfl ?_
      refine WL.run 1 [] [1, 2, 13] (fun _ => [(1, .pointer (some ⟨b1, 0, none⟩)), (2, .int .i64 0), (13, .bool r5)]) (fun _ => [(b1, .cells #[.int .i64 a0.Src, .int .i64 a0.Dst, .bool a0.NoSum, .string a0.Body] 40 (0, 0))]) (fun _ => []) (fun _ => by kernel_rfl) (fun _ => ?_)
      exact WL.sub [1, 2, 13] (by kernel_rfl) (WL.pick [0] (by kernel_rfl) (by kernel_rfl) (K1 r5 hM))
    · replace hM := cond_f hM c4
      refine WL.run 5 [] [1, 2, 13] (fun _ => [(1, .pointer (some ⟨b1, 0, none⟩)), (2, .int .i64 0), (13, .bool false)]) (fun _ => [(b1, .cells #[.int .i64 a0.Src, .int .i64 a0.Dst, .bool a0.NoSum, .string a0.Body] 40 (0, 0))]) (fun _ => []) (fun _ => by kernel_rfl) (fun _ => ?_)
      exact WL.sub [1, 2, 13] (by kernel_rfl) (WL.pick [0] (by kernel_rfl) (by kernel_rfl) (K1 false hM))

end Go.Proofs.YtbodofjnfmjbpaaGreatDoor

namespace Go.Proofs.YtbodofjnfmjbpaaGreatDoor
open Go Eng
set_option linter.unusedVariables false
set_option linter.unusedSimpArgs false

/-! ### gangway/udp.word: function 66 -/
def udp_word.f (k : Nat) (a0 : Int) : Option (ByteArray) :=
  (octets_Put.f k (u64 a0) 2).bind fun (r1, r2) =>
  some r1

set_option maxRecDepth 100000 in
theorem udp_word_calls (k : Nat) (a0 : Int) (r : ByteArray) (h : udp_word.f k a0 = some r) : Pure Tryz.prog Glob 66 #[.int .i64 a0] (.string r) := by
  intro w Z hS
  refine calls_of (args := [.int .i64 a0]) (L := [(0, .int .i64 a0)]) (N := 12) (S := Sat w Z [] [] Glob) Tryz.func66 rfl rfl (Nat.le_of_ble_eq_true rfl) rfl hS ?_
  have hM := h
  clear h hS
  unfold udp_word.f at hM
  refine WP.seq ?_
  refine WP.run [] [0, 2] (fun _ => [(0, .int .i64 a0), (2, .string (⟨#[]⟩ : ByteArray))]) (fun _ => []) (fun _ => []) (fun _ => by kernel_rfl) (fun _ => ?_)
  refine WP.seq ?_
  refine WP.region ?_
  refine WL.run 2 [] [2, 7] (fun _ => [(2, .string (⟨#[]⟩ : ByteArray)), (7, .int .u64 (u64 a0))]) (fun _ => []) (fun _ => []) (fun _ => by kernel_rfl) (fun _ => ?_)
  obtain ⟨⟨r1, r2⟩, h3, hM⟩ := bind_some hM
  dsimp only at hM
  refine WL.callP [] [] (octets_Put_calls k (u64 a0) 2 _ h3) (fun _ h => h) (by kernel_rfl) (by kernel_rfl) rfl ?_
  refine WL.run 5 [] [2, 3] (fun _ => [(2, .string (⟨#[]⟩ : ByteArray)), (3, .string r1)]) (fun _ => []) (fun _ => []) (fun _ => by kernel_rfl) (fun _ => ?_)
  refine WP.done ?_
  refine WP.seq ?_
  refine WP.run [] [2] (fun _ => [(2, .string r1)]) (fun _ => []) (fun _ => []) (fun _ => by kernel_rfl) (fun _ => ?_)
  obtain rfl := Option.some.inj hM
  exact WP.ret [] [] (.string r1) (by kernel_rfl) (fun w' hw => ⟨rfl, hw.pick [] rfl⟩)

end Go.Proofs.YtbodofjnfmjbpaaGreatDoor

namespace Go.Proofs.YtbodofjnfmjbpaaGreatDoor
open Go Eng
set_option linter.unusedVariables false
set_option linter.unusedSimpArgs false

/-! ### gangway/csum.Head: function 68 -/
def csum_Head.f (k : Nat) (a0 : Int) (a1 : Int) (a2 : Int) (a3 : Int) : Option (ByteArray) :=
  (octets_Put.f k (u64 a0) 4).bind fun (r1, r2) =>
  (octets_Put.f k (u64 a1) 4).bind fun (r4, r5) =>
  (octets_Put.f k (u64 (bAnd .i64 a3 65535)) 2).bind fun (r7, r8) =>
  (catS r1 r4).bind fun t10 =>
  (catS t10 (ByteArray.push (ByteArray.push ByteArray.empty (UInt8.ofNat (Int.toNat 0))) (UInt8.ofNat (Int.toNat (u8 a2))))).bind fun t13 =>
  (catS t13 r7).bind fun t15 =>
  some t15

set_option maxRecDepth 100000 in
theorem csum_Head_calls (k : Nat) (a0 : Int) (a1 : Int) (a2 : Int) (a3 : Int) (r : ByteArray) (h : csum_Head.f k a0 a1 a2 a3 = some r) : Pure Tryz.prog Glob 68 #[.int .u32 a0, .int .u32 a1, .int .i64 a2, .int .i64 a3] (.string r) := by
  intro w Z hS
  refine calls_of (args := [.int .u32 a0, .int .u32 a1, .int .i64 a2, .int .i64 a3]) (L := [(0, .int .u32 a0), (1, .int .u32 a1), (2, .int .i64 a2), (3, .int .i64 a3)]) (N := 44) (S := Sat w Z [] [] Glob) Tryz.func68 rfl rfl (Nat.le_of_ble_eq_true rfl) rfl hS ?_
  have hM := h
  clear h hS
  unfold csum_Head.f at hM
  refine WP.seq ?_
  refine WP.run [] [0, 1, 2, 3, 8] (fun _ => [(0, .int .u32 a0), (1, .int .u32 a1), (2, .int .i64 a2), (3, .int .i64 a3), (8, .string (⟨#[]⟩ : ByteArray))]) (fun _ => []) (fun _ => []) (fun _ => by kernel_rfl) (fun _ => ?_)
  refine WP.seq ?_
  refine WP.region ?_
  refine WL.run 2 [] [1, 2, 3, 8, 17] (fun _ => [(1, .int .u32 a1), (2, .int .i64 a2), (3, .int .i64 a3), (8, .string (⟨#[]⟩ : ByteArray)), (17, .int .u64 (u64 a0))]) (fun _ => []) (fun _ => []) (fun _ => by kernel_rfl) (fun _ => ?_)
  obtain ⟨⟨r1, r2⟩, h3, hM⟩ := bind_some hM
  dsimp only at hM
  refine WL.callP [] [] (octets_Put_calls k (u64 a0) 4 _ h3) (fun _ h => h) (by kernel_rfl) (by kernel_rfl) rfl ?_
  refine WL.run 5 [] [1, 2, 3, 8, 9] (fun _ => [(1, .int .u32 a1), (2, .int .i64 a2), (3, .int .i64 a3), (8, .string (⟨#[]⟩ : ByteArray)), (9, .string r1)]) (fun _ => []) (fun _ => []) (fun _ => by kernel_rfl) (fun _ => ?_)
  refine WP.done ?_
  refine WP.seq ?_
  refine WP.region ?_
  refine WL.run 2 [] [2, 3, 8, 9, 23] (fun _ => [(2, .int .i64 a2), (3, .int .i64 a3), (8, .string (⟨#[]⟩ : ByteArray)), (9, .string r1), (23, .int .u64 (u64 a1))]) (fun _ => []) (fun _ => []) (fun _ => by kernel_rfl) (fun _ => ?_)
  obtain ⟨⟨r4, r5⟩, h6, hM⟩ := bind_some hM
  dsimp only at hM
  refine WL.callP [] [] (octets_Put_calls k (u64 a1) 4 _ h6) (fun _ h => h) (by kernel_rfl) (by kernel_rfl) rfl ?_
  refine WL.run 5 [] [2, 3, 8, 9, 11] (fun _ => [(2, .int .i64 a2), (3, .int .i64 a3), (8, .string (⟨#[]⟩ : ByteArray)), (9, .string r1), (11, .string r4)]) (fun _ => []) (fun _ => []) (fun _ => by kernel_rfl) (fun _ => ?_)
  refine WP.done ?_
  refine WP.seq ?_
  refine WP.region ?_
  refine WL.run 3 [] [2, 8, 9, 11, 30] (fun _ => [(2, .int .i64 a2), (8, .string (⟨#[]⟩ : ByteArray)), (9, .string r1), (11, .string r4), (30, .int .u64 (u64 (bAnd .i64 a3 65535)))]) (fun _ => []) (fun _ => []) (fun _ => by kernel_rfl) (fun _ => ?_)
  obtain ⟨⟨r7, r8⟩, h9, hM⟩ := bind_some hM
  dsimp only at hM
  refine WL.callP [] [] (octets_Put_calls k (u64 (bAnd .i64 a3 65535)) 2 _ h9) (fun _ h => h) (by kernel_rfl) (by kernel_rfl) rfl ?_
  refine WL.run 5 [] [2, 8, 9, 11, 13] (fun _ => [(2, .int .i64 a2), (8, .string (⟨#[]⟩ : ByteArray)), (9, .string r1), (11, .string r4), (13, .string r7)]) (fun _ => []) (fun _ => []) (fun _ => by kernel_rfl) (fun _ => ?_)
  refine WP.done ?_
  refine WP.seq ?_
  refine WP.region ?_
  refine WL.run 2 [] [2, 8, 13, 34, 35] (fun _ => [(2, .int .i64 a2), (8, .string (⟨#[]⟩ : ByteArray)), (13, .string r7), (34, .string r1), (35, .string r4)]) (fun _ => []) (fun _ => []) (fun _ => by kernel_rfl) (fun _ => ?_)
  obtain ⟨t10, h11, hM⟩ := bind_some hM
  refine WL.val (fun _ => run_catS (a := r1) (b := r4) (by kernel_rfl) (by kernel_rfl) h11) (by kernel_rfl) (by kernel_rfl) rfl ?_
  refine WL.run 4 [0, 0] [8, 13, 36, 40] (fun b12 => [(8, .string (⟨#[]⟩ : ByteArray)), (13, .string r7), (36, .string t10), (40, .string (ByteArray.push (ByteArray.push ByteArray.empty (UInt8.ofNat (Int.toNat 0))) (UInt8.ofNat (Int.toNat (u8 a2)))))]) (fun b12 => [(b12, .cells #[.int .u8 0, .int .u8 (u8 a2)] 5 (0, 0))]) (fun b12 => [b12, b12]) (fun b12 => by kernel_rfl) (fun b12 => ?_)
  obtain ⟨t13, h14, hM⟩ := bind_some hM
  refine WL.val (fun _ => run_catS (a := t10) (b := (ByteArray.push (ByteArray.push ByteArray.empty (UInt8.ofNat (Int.toNat 0))) (UInt8.ofNat (Int.toNat (u8 a2))))) (by kernel_rfl) (by kernel_rfl) h14) (by kernel_rfl) (by kernel_rfl) rfl ?_
  refine WL.run 1 [] [8, 41, 42] (fun _ => [(8, .string (⟨#[]⟩ : ByteArray)), (41, .string t13), (42, .string r7)]) (fun _ => [(b12, .cells #[.int .u8 0, .int .u8 (u8 a2)] 5 (0, 0))]) (fun _ => []) (fun _ => by kernel_rfl) (fun _ => ?_)
  obtain ⟨t15, h16, hM⟩ := bind_some hM
  refine WL.val (fun _ => run_catS (a := t13) (b := r7) (by kernel_rfl) (by kernel_rfl) h16) (by kernel_rfl) (by kernel_rfl) rfl ?_
  refine WL.run 1 [] [8] (fun _ => [(8, .string t15)]) (fun _ => [(b12, .cells #[.int .u8 0, .int .u8 (u8 a2)] 5 (0, 0))]) (fun _ => []) (fun _ => by kernel_rfl) (fun _ => ?_)
  refine WP.done ?_
  refine WP.keep [false] (by kernel_rfl : _ = []) ?_
  obtain rfl := Option.some.inj hM
  exact WP.ret [] [] (.string t15) (by kernel_rfl) (fun w' hw => ⟨rfl, hw.pick [] rfl⟩)

end Go.Proofs.YtbodofjnfmjbpaaGreatDoor

namespace Go.Proofs.YtbodofjnfmjbpaaGreatDoor
open Go Eng
set_option linter.unusedVariables false
set_option linter.unusedSimpArgs false

/-! ### strings.Join: function 114 -/
def strings_Join.ren : Go.Shelf.Ren where
  f := fun | 156 => 114 | 165 => 118 | 166 => 119 | 169 => 120 | 240 => 121 | 241 => 122 | 276 => 123 | 277 => 124 | n => n
  t := fun | 0 => 0 | 3 => 3 | 4 => 4 | 5 => 5 | 9 => 9 | 20 => 20 | 31 => 161 | 37 => 87 | 70 => 191 | 72 => 193 | 75 => 73 | 76 => 170 | 80 => 196 | 127 => 197 | 164 => 103 | n => n
  g := fun n => n
set_option maxRecDepth 100000 in
theorem strings_Join.lays : Go.Proofs.Lays.n156 Tryz.prog strings_Join.ren where
  mixed := by kernel_rfl
  f156 := by kernel_rfl
  f165 := by kernel_rfl
  f166 := by kernel_rfl
  f169 := by kernel_rfl
  f240 := by kernel_rfl
  f241 := by kernel_rfl
  f276 := by kernel_rfl
  f277 := by kernel_rfl
  t0 := by kernel_rfl
  a0 := (fun _ => by kernel_rfl)
  z0 := (fun _ => by kernel_rfl)
  v0 := (fun _ => by kernel_rfl)
  t3 := by kernel_rfl
  a3 := (fun _ => by kernel_rfl)
  z3 := (fun _ => by kernel_rfl)
  v3 := (fun _ => by kernel_rfl)
  t4 := by kernel_rfl
  a4 := (fun _ => by kernel_rfl)
  z4 := (fun _ => by kernel_rfl)
  v4 := (fun _ => by kernel_rfl)
  t9 := by kernel_rfl
  a9 := (fun _ => by kernel_rfl)
  z9 := (fun _ => by kernel_rfl)
  v9 := (fun _ => by kernel_rfl)
  t20 := by kernel_rfl
  a20 := (fun _ => by kernel_rfl)
  z20 := (fun _ => by kernel_rfl)
  v20 := (fun _ => by kernel_rfl)
  t31 := by kernel_rfl
  a31 := (fun _ => by kernel_rfl)
  z31 := (fun _ => by kernel_rfl)
  v31 := (fun _ => by kernel_rfl)
  t37 := by kernel_rfl
  a37 := (fun _ => by kernel_rfl)
  z37 := (fun _ => by kernel_rfl)
  v37 := (fun _ => by kernel_rfl)
  t70 := by kernel_rfl
  a70 := (fun _ => by kernel_rfl)
  z70 := (fun _ => by kernel_rfl)
  v70 := (fun _ => by kernel_rfl)
  t72 := by kernel_rfl
  a72 := (fun _ => by kernel_rfl)
  z72 := (fun _ => by kernel_rfl)
  v72 := (fun _ => by kernel_rfl)
  t75 := by kernel_rfl
  a75 := (fun _ => by kernel_rfl)
  z75 := (fun _ => by kernel_rfl)
  v75 := (fun _ => by kernel_rfl)
  t76 := by kernel_rfl
  a76 := (fun _ => by kernel_rfl)
  z76 := (fun _ => by kernel_rfl)
  v76 := (fun _ => by kernel_rfl)
  t127 := by kernel_rfl
  a127 := (fun _ => by kernel_rfl)
  z127 := (fun _ => by kernel_rfl)
  v127 := (fun _ => by kernel_rfl)
  t164 := by kernel_rfl
  a164 := (fun _ => by kernel_rfl)
  z164 := (fun _ => by kernel_rfl)
  v164 := (fun _ => by kernel_rfl)
set_option maxRecDepth 100000 in
theorem strings_Join.extra : Go.Proofs.Builder.Extra Tryz.prog strings_Join.ren where
  sizeBuilder := by kernel_rfl
  liesBuilder := by kernel_rfl
  t5 := by kernel_rfl
  a5 := fun _ => by kernel_rfl
  z5 := fun _ => by kernel_rfl
  v5 := fun _ => by kernel_rfl
  infoByte := by kernel_rfl
  cellsByte := by kernel_rfl
  sizeByte := by kernel_rfl
  neB5 := by decide

def strings_Join.f (a0 : List ByteArray) (a1 : ByteArray) : Option ByteArray := if a0.length ≤ 140737488355328 ∧ (Lib.join (a0.map (·.data.toList)) a1.data.toList).length ≤ 140737488355328 then some ⟨(Lib.join (a0.map (·.data.toList)) a1.data.toList).toArray⟩ else none

set_option maxRecDepth 100000 in
theorem strings_Join_calls (A00 : SkL Unit) (a0 : List ByteArray) (a1 : ByteArray) (r : ByteArray) (h : strings_Join.f a0 a1 = some r) : Pure Tryz.prog ([Row 1 (pl encS) noK A00 a0] ++ Glob) 114 #[slcV A00 a0.length, .string a1] (.string r) := by
  intro w Z hS
  unfold strings_Join.f at h
  split at h
  · rename_i hb
    obtain rfl := Option.some.inj h
    have hR := hS.fact (φ := Row 1 (pl encS) noK A00 a0) (fact_at 0 rfl)
    have hback : ∀ w' : World, Go.RowKit.Below w.heap.size w w' → Sat w Z [] [] ([Row 1 (pl encS) noK A00 a0] ++ Glob) w' := fun w' hb' => hS.away hb'.os hb'.tape hb'.output hb'.size hb'.block
    cases hA : A00.a with
    | none =>
      obtain ⟨h1, h2⟩ := hR.nil hA
      subst h1
      have hv : slcV A00 ([] : List ByteArray).length = .slice none 0 0 := by simp [slcV, SkL.addr, hA, h2]
      rw [hv]
      refine (Any.strings_Join_none strings_Join.lays strings_Join.extra none 0 a1 w).mono fun e w' ⟨he, hw⟩ => ⟨he, ?_⟩
      subst hw
      exact hS
    | some q =>
      obtain ⟨b, o⟩ := q
      have hv : slcV A00 a0.length = .slice (some ⟨b, o, none⟩) a0.length A00.c := by simp [slcV, SkL.addr, hA]
      rw [hv]
      have hcell : ∀ (j : Nat) x, a0[j]? = some x → w.cell? ⟨b, o + j, none⟩ = some (.string x) := fun j x hx => by
        have := hR.cells b o hA j x hx 0 (.string x) rfl
        rwa [Nat.mul_one, Nat.add_zero] at this
      cases hl : a0 with
      | nil =>
        subst hl
        refine (Any.strings_Join_none strings_Join.lays strings_Join.extra _ _ a1 w).mono fun e w' ⟨he, hw⟩ => ⟨he, ?_⟩
        subst hw
        exact hS
      | cons x0 xr =>
        have hlt : b < w.heap.size := by
          have := hcell 0 x0 (by rw [hl]; rfl)
          exact World.block_lt_of_cell? w _ this
        rw [← hl]
        exact (Any.strings_Join strings_Join.lays strings_Join.extra b o A00.c a0 a1 w hcell hlt hb.1 hR.le hb.2).mono fun e w' ⟨he, hw⟩ => ⟨he, hback w' hw⟩
  · cases h

end Go.Proofs.YtbodofjnfmjbpaaGreatDoor

namespace Go.Proofs.YtbodofjnfmjbpaaGreatDoor
open Go Eng
set_option linter.unusedVariables false
set_option linter.unusedSimpArgs false

/-! ### gangway/csum.fold: function 115 -/
def csum_fold.l1 : Nat → Int → Option (Int)
  | 0, _ => none
  | n + 1, x1 =>
    bif decide (x1 > 65535) then
      csum_fold.l1 n (i64 ((bAnd .i64 x1 65535) + (Int.fdiv x1 65536)))
    else
      some x1

def csum_fold.f (k : Nat) (a0 : Int) : Option (Int) :=
  csum_fold.l1 k a0

set_option maxRecDepth 100000 in
theorem csum_fold_calls (k : Nat) (a0 : Int) (r : Int) (h : csum_fold.f k a0 = some r) : Pure Tryz.prog Glob 115 #[.int .i64 a0] (.int .i64 r) := by
  intro w Z hS
  refine calls_of (args := [.int .i64 a0]) (L := [(0, .int .i64 a0)]) (N := 11) (S := Sat w Z [] [] Glob) Tryz.func115 rfl rfl (Nat.le_of_ble_eq_true rfl) rfl hS ?_
  have hM := h
  clear h hS
  unfold csum_fold.f at hM
  refine WP.seq ?_
  refine WP.run [] [0, 2] (fun _ => [(0, .int .i64 a0), (2, .int .i64 0)]) (fun _ => []) (fun _ => []) (fun _ => by kernel_rfl) (fun _ => ?_)
  refine WP.seq ?_
  refine WP.block ?_
  refine WP.sub [0, 2] (L' := [(0, .int .i64 a0), (2, .int .i64 0)]) (by kernel_rfl) ?_
  refine WP.loop (σ := Int) (fun n st => csum_fold.l1 n st) r (fun st => [(0, .int .i64 st), (2, .int .i64 0)]) (fun st => Sat w Z [] [] Glob) (st := a0) (fun n st hM => ?_) hM
  rcases n with _ | n
  · exact nomatch (show (none : Option _) = some r from hM)
  obtain ⟨x1, rfl⟩ : ∃ y, y = st := ⟨st, rfl⟩
  replace hM : csum_fold.l1 (n + 1) x1 = some r := hM
  rw [csum_fold.l1] at hM
  show WP _ _ _ _ _ [(0, .int .i64 x1), (2, .int .i64 0)] (Sat w Z [] [] Glob)
  refine WP.seq ?_
  refine WP.seq ?_
  refine WP.run [] [0, 2, 3, 4] (fun _ => [(0, .int .i64 x1), (2, .int .i64 0), (3, .int .i64 x1), (4, .bool (decide (x1 > 65535)))]) (fun _ => []) (fun _ => []) (fun _ => by kernel_rfl) (fun _ => ?_)
  refine WP.cond (decide (x1 > 65535)) rfl rfl (fun c2 => ?_) (fun c2 => ?_)
  · replace hM := cond_t hM c2
    refine WP.skip ?_
    refine WP.block ?_
    refine WP.run [] [0, 2, 3, 4, 5, 6, 7, 8, 9] (fun _ => [(0, .int .i64 (i64 ((bAnd .i64 x1 65535) + (Int.fdiv x1 65536)))), (2, .int .i64 0), (3, .int .i64 x1), (4, .bool (decide (x1 > 65535))), (5, .int .i64 x1), (6, .int .i64 (bAnd .i64 x1 65535)), (7, .int .i64 x1), (8, .int .i64 (Int.fdiv x1 65536)), (9, .int .i64 (i64 ((bAnd .i64 x1 65535) + (Int.fdiv x1 65536))))]) (fun _ => []) (fun _ => []) (fun _ => by kernel_rfl) (fun _ => ?_)
    refine WP.leave ?_
    exact WP.again' [0, 2] (i64 ((bAnd .i64 x1 65535) + (Int.fdiv x1 65536))) hM (by kernel_rfl) (fun _ h => h.pick [] (by kernel_rfl))
  · replace hM := cond_f hM c2
    refine WP.exit rfl ?_
    refine WP.seq ?_
    refine WP.run [] [2] (fun _ => [(2, .int .i64 x1)]) (fun _ => []) (fun _ => []) (fun _ => by kernel_rfl) (fun _ => ?_)
    obtain rfl := Option.some.inj hM
    exact WP.ret [] [] (.int .i64 x1) (by kernel_rfl) (fun w' hw => ⟨rfl, hw.pick [] rfl⟩)

end Go.Proofs.YtbodofjnfmjbpaaGreatDoor

namespace Go.Proofs.YtbodofjnfmjbpaaGreatDoor
open Go Eng
set_option linter.unusedVariables false
set_option linter.unusedSimpArgs false

/-! ### gangway/csum.total: function 96 -/
def csum_total.l1 (x6 : ByteArray) (k : Nat) : Nat → Int → Int → Option (Int)
  | 0, _, _ => none
  | n + 1, x7, x8 =>
    bif decide (x8 < (x6.size : Int)) then
      (idxS x6 x8).bind fun t10 =>
      (idxS x6 (i64 (x8 + 1))).bind fun t12 =>
      (csum_fold.f k (i64 ((i64 (x7 + (i64 ((i64 t10) * 256)))) + (i64 t12)))).bind fun r14 =>
      csum_total.l1 x6 k n r14 (i64 (x8 + 2))
    else
      some x7

def csum_total.k2 (k : Nat) (x6 : ByteArray) : Option (Int) :=
  csum_total.l1 x6 k k 0 0

def csum_total.f (k : Nat) (a0 : (List ByteArray)) : Option (Int) :=
  (strings_Join.f a0 (⟨#[]⟩ : ByteArray)).bind fun r1 =>
  bif ((Int.tmod (r1.size : Int) 2) == 1) then
    (catS r1 (⟨#[0]⟩ : ByteArray)).bind fun t4 =>
    csum_total.k2 k t4
  else
    csum_total.k2 k r1

set_option maxRecDepth 100000 in
theorem csum_total_calls (k : Nat) (A00 : SkL Unit) (a0 : (List ByteArray)) (r : Int) (h : csum_total.f k a0 = some r) : Pure Tryz.prog ([Row 1 (pl encS) noK A00 a0] ++ Glob) 96 #[slcV A00 a0.length] (.int .i64 r) := by
  intro w Z hS
  refine calls_of (args := [slcV A00 a0.length]) (L := [(0, slcV A00 a0.length)]) (N := 35) (S := Sat w Z [] [] ([Row 1 (pl encS) noK A00 a0] ++ Glob)) Tryz.func96 rfl rfl (Nat.le_of_ble_eq_true rfl) rfl hS ?_
  have hM := h
  clear h hS
  unfold csum_total.f at hM
  refine WP.seq ?_
  refine WP.run [] [0, 2] (fun _ => [(0, slcV A00 a0.length), (2, .int .i64 0)]) (fun _ => []) (fun _ => []) (fun _ => by kernel_rfl) (fun _ => ?_)
  refine WP.seq ?_
  refine WP.region ?_
  refine WL.run 1 [] [2, 6] (fun _ => [(2, .int .i64 0), (6, slcV A00 a0.length)]) (fun _ => []) (fun _ => []) (fun _ => by kernel_rfl) (fun _ => ?_)
  obtain ⟨r1, h2, hM⟩ := bind_some hM
  refine WL.callP [] [] (strings_Join_calls A00 a0 (⟨#[]⟩ : ByteArray) _ h2) (sub_pick [0] (by kernel_rfl)) (by kernel_rfl) (by kernel_rfl) rfl ?_
  refine WL.run 1 [] [2, 3] (fun _ => [(2, .int .i64 0), (3, .string r1)]) (fun _ => []) (fun _ => []) (fun _ => by kernel_rfl) (fun _ => ?_)
  refine WP.done ?_
  refine WP.seqJoin (σ := ByteArray) (fun st => csum_total.k2 k st = some r) (fun st => [(2, .int .i64 0), (3, .string st)]) (fun st => Sat w Z [] [] ([Row 1 (pl encS) noK A00 a0] ++ Glob)) (fun st hM => ?_) (fun K2 => ?_)
  ·
    obtain ⟨x6, rfl⟩ : ∃ y, y = st := ⟨st, rfl⟩
    replace hM : csum_total.k2 k x6 = some r := hM
    unfold csum_total.k2 at hM
    show WP _ _ _ _ _ [(2, .int .i64 0), (3, .string x6)] (Sat w Z [] [] ([Row 1 (pl encS) noK A00 a0] ++ Glob))
    refine WP.seq ?_
    refine WP.run [] [2, 3, 4] (fun _ => [(2, .int .i64 0), (3, .string x6), (4, .int .i64 0)]) (fun _ => []) (fun _ => []) (fun _ => by kernel_rfl) (fun _ => ?_)
    refine WP.seq ?_
    refine WP.seq ?_
    refine WP.run [] [2, 3, 4, 5] (fun _ => [(2, .int .i64 0), (3, .string x6), (4, .int .i64 0), (5, .int .i64 0)]) (fun _ => []) (fun _ => []) (fun _ => by kernel_rfl) (fun _ => ?_)
    refine WP.block ?_
    refine WP.sub [2, 3, 4, 5] (L' := [(2, .int .i64 0), (3, .string x6), (4, .int .i64 0), (5, .int .i64 0)]) (by kernel_rfl) ?_
    refine WP.lessF [0] (F' := [Row 1 (pl encS) noK A00 a0]) (by kernel_rfl) ?_
    refine WP.loop (σ := Int × Int) (fun n st => csum_total.l1 x6 k n st.1 st.2) r (fun st => [(2, .int .i64 0), (3, .string x6), (4, .int .i64 st.1), (5, .int .i64 st.2)]) (fun st => Sat w Z [] [] ([Row 1 (pl encS) noK A00 a0] ++ Glob)) (st := (0, 0)) (fun n st hM => ?_) hM
    rcases n with _ | n
    · exact nomatch (show (none : Option _) = some r from hM)
    obtain ⟨x7, x8⟩ := st
    replace hM : csum_total.l1 x6 k (n + 1) x7 x8 = some r := hM
    rw [csum_total.l1] at hM
    show WP _ _ _ _ _ [(2, .int .i64 0), (3, .string x6), (4, .int .i64 x7), (5, .int .i64 x8)] (Sat w Z [] [] ([Row 1 (pl encS) noK A00 a0] ++ Glob))
    refine WP.seq ?_
    refine WP.seq ?_
    refine WP.run [] [2, 3, 4, 5, 14, 15, 16, 17] (fun _ => [(2, .int .i64 0), (3, .string x6), (4, .int .i64 x7), (5, .int .i64 x8), (14, .int .i64 x8), (15, .string x6), (16, .int .i64 (x6.size : Int)), (17, .bool (decide (x8 < (x6.size : Int))))]) (fun _ => []) (fun _ => []) (fun _ => by kernel_rfl) (fun _ => ?_)
    refine WP.cond (decide (x8 < (x6.size : Int))) rfl rfl (fun c9 => ?_) (fun c9 => ?_)
    · replace hM := cond_t hM c9
      refine WP.skip ?_
      refine WP.seq ?_
      refine WP.block ?_
      refine WP.quiet (by kernel_rfl) (by kernel_rfl) ?_
      refine QL.run 3 [] [2, 3, 4, 5, 14, 15, 16, 17, 20, 21, 22] [] [(2, .int .i64 0), (3, .string x6), (4, .int .i64 x7), (5, .int .i64 x8), (14, .int .i64 x8), (15, .string x6), (16, .int .i64 (x6.size : Int)), (17, .bool (decide (x8 < (x6.size : Int)))), (20, .int .i64 x7), (21, .string x6), (22, .int .i64 x8)] (by kernel_rfl) ?_
      obtain ⟨t10, h11, hM⟩ := bind_some hM
      refine QL.val (fun _ => run_idxS (s := x6) (k := .i64) (i := x8) (by kernel_rfl) (by kernel_rfl) (by kernel_rfl) h11) (by kernel_rfl) (by kernel_rfl) rfl ?_
      refine QL.run 6 [] [2, 3, 4, 5, 14, 15, 16, 17, 20, 21, 22, 23, 24, 25, 26, 27, 28, 29] [] [(2, .int .i64 0), (3, .string x6), (4, .int .i64 x7), (5, .int .i64 x8), (14, .int .i64 x8), (15, .string x6), (16, .int .i64 (x6.size : Int)), (17, .bool (decide (x8 < (x6.size : Int)))), (20, .int .i64 x7), (21, .string x6), (22, .int .i64 x8), (23, .int .u8 t10), (24, .int .i64 (i64 t10)), (25, .int .i64 (i64 ((i64 t10) * 256))), (26, .int .i64 (i64 (x7 + (i64 ((i64 t10) * 256))))), (27, .string x6), (28, .int .i64 x8), (29, .int .i64 (i64 (x8 + 1)))] (by kernel_rfl) ?_
      obtain ⟨t12, h13, hM⟩ := bind_some hM
      refine QL.val (fun _ => run_idxS (s := x6) (k := .i64) (i := i64 (x8 + 1)) (by kernel_rfl) (by kernel_rfl) (by kernel_rfl) h13) (by kernel_rfl) (by kernel_rfl) rfl ?_
      refine QL.run 2 [] [2, 3, 4, 5, 14, 15, 16, 17, 20, 21, 22, 23, 24, 25, 26, 27, 28, 29, 30, 31, 32] [] [(2, .int .i64 0), (3, .string x6), (4, .int .i64 x7), (5, .int .i64 x8), (14, .int .i64 x8), (15, .string x6), (16, .int .i64 (x6.size : Int)), (17, .bool (decide (x8 < (x6.size : Int)))), (20, .int .i64 x7), (21, .string x6), (22, .int .i64 x8), (23, .int .u8 t10), (24, .int .i64 (i64 t10)), (25, .int .i64 (i64 ((i64 t10) * 256))), (26, .int .i64 (i64 (x7 + (i64 ((i64 t10) * 256))))), (27, .string x6), (28, .int .i64 x8), (29, .int .i64 (i64 (x8 + 1))), (30, .int .u8 t12), (31, .int .i64 (i64 t12)), (32, .int .i64 (i64 ((i64 (x7 + (i64 ((i64 t10) * 256)))) + (i64 t12))))] (by kernel_rfl) ?_
      obtain ⟨r14, h15, hM⟩ := bind_some hM
      refine QL.callP [] [] (csum_fold_calls k (i64 ((i64 (x7 + (i64 ((i64 t10) * 256)))) + (i64 t12))) _ h15) (fun _ h => List.mem_append_right _ h) (by kernel_rfl) (by kernel_rfl) rfl ?_
      refine QL.run 1 [] [2, 3, 4, 5, 14, 15, 16, 17, 20, 21, 22, 23, 24, 25, 26, 27, 28, 29, 30, 31, 32, 33] [] [(2, .int .i64 0), (3, .string x6), (4, .int .i64 r14), (5, .int .i64 x8), (14, .int .i64 x8), (15, .string x6), (16, .int .i64 (x6.size : Int)), (17, .bool (decide (x8 < (x6.size : Int)))), (20, .int .i64 x7), (21, .string x6), (22, .int .i64 x8), (23, .int .u8 t10), (24, .int .i64 (i64 t10)), (25, .int .i64 (i64 ((i64 t10) * 256))), (26, .int .i64 (i64 (x7 + (i64 ((i64 t10) * 256))))), (27, .string x6), (28, .int .i64 x8), (29, .int .i64 (i64 (x8 + 1))), (30, .int .u8 t12), (31, .int .i64 (i64 t12)), (32, .int .i64 (i64 ((i64 (x7 + (i64 ((i64 t10) * 256)))) + (i64 t12)))), (33, .int .i64 r14)] (by kernel_rfl) ?_
      refine QL.done ?_
      refine WP.leave ?_
      refine WP.run [] [2, 3, 4, 5, 14, 15, 16, 17, 18, 19, 20, 21, 22, 23, 24, 25, 26, 27, 28, 29, 30, 31, 32, 33] (fun _ => [(2, .int .i64 0), (3, .string x6), (4, .int .i64 r14), (5, .int .i64 (i64 (x8 + 2))), (14, .int .i64 x8), (15, .string x6), (16, .int .i64 (x6.size : Int)), (17, .bool (decide (x8 < (x6.size : Int)))), (18, .int .i64 x8), (19, .int .i64 (i64 (x8 + 2))), (20, .int .i64 x7), (21, .string x6), (22, .int .i64 x8), (23, .int .u8 t10), (24, .int .i64 (i64 t10)), (25, .int .i64 (i64 ((i64 t10) * 256))), (26, .int .i64 (i64 (x7 + (i64 ((i64 t10) * 256))))), (27, .string x6), (28, .int .i64 x8), (29, .int .i64 (i64 (x8 + 1))), (30, .int .u8 t12), (31, .int .i64 (i64 t12)), (32, .int .i64 (i64 ((i64 (x7 + (i64 ((i64 t10) * 256)))) + (i64 t12)))), (33, .int .i64 r14)]) (fun _ => []) (fun _ => []) (fun _ => by kernel_rfl) (fun _ => ?_)
      exact WP.again' [2, 3, 4, 5] (r14, i64 (x8 + 2)) hM (by kernel_rfl) (fun _ h => (h.pick [] (by kernel_rfl)).lessF [0] (by kernel_rfl))
    · replace hM := cond_f hM c9
      refine WP.exit rfl ?_
      refine WP.seq ?_
      refine WP.run [] [2] (fun _ => [(2, .int .i64 x7)]) (fun _ => []) (fun _ => []) (fun _ => by kernel_rfl) (fun _ => ?_)
      obtain rfl := Option.some.inj hM
      exact WP.ret [] [] (.int .i64 x7) (by kernel_rfl) (fun w' hw => ⟨rfl, (hw.pick [] rfl).lessF [0] (by kernel_rfl)⟩)
  ·
    refine WP.seq ?_
    refine WP.run [] [2, 3, 11] (fun _ => [(2, .int .i64 0), (3, .string r1), (11, .bool ((Int.tmod (r1.size : Int) 2) == 1))]) (fun _ => []) (fun _ => []) (fun _ => by kernel_rfl) (fun _ => ?_)
    refine WP.cond ((Int.tmod (r1.size : Int) 2) == 1) rfl rfl (fun c3 => ?_) (fun c3 => ?_)
    · replace hM := cond_t hM c3
      refine WP.region ?_
      refine WL.run 1 [] [2, 3, 12] (fun _ => [(2, .int .i64 0), (3, .string r1), (12, .string r1)]) (fun _ => []) (fun _ => []) (fun _ => by kernel_rfl) (fun _ => ?_)
      obtain ⟨t4, h5, hM⟩ := bind_some hM
      refine WL.val (fun _ => run_catS (a := r1) (b := (⟨#[0]⟩ : ByteArray)) (by kernel_rfl) (by kernel_rfl) h5) (by kernel_rfl) (by kernel_rfl) rfl ?_
      refine WL.run 1 [] [2, 3] (fun _ => [(2, .int .i64 0), (3, .string t4)]) (fun _ => []) (fun _ => []) (fun _ => by kernel_rfl) (fun _ => ?_)
      refine WP.done ?_
      exact WP.sub [2, 3] (by kernel_rfl) (WP.pick [] (by kernel_rfl) (by kernel_rfl) (WP.lessF [0] (by kernel_rfl) (K2 t4 hM)))
    · replace hM := cond_f hM c3
      refine WP.skip ?_
      exact WP.sub [2, 3] (by kernel_rfl) (WP.pick [] (by kernel_rfl) (by kernel_rfl) (WP.lessF [0] (by kernel_rfl) (K2 r1 hM)))

end Go.Proofs.YtbodofjnfmjbpaaGreatDoor

namespace Go.Proofs.YtbodofjnfmjbpaaGreatDoor
open Go Eng
set_option linter.unusedVariables false
set_option linter.unusedSimpArgs false

/-! ### gangway/csum.Of: function 67 -/
def csum_Of.f (k : Nat) (a0 : (List ByteArray)) : Option (Int) :=
  (csum_total.f k a0).bind fun r1 =>
  some (i64 (65535 - r1))

set_option maxRecDepth 100000 in
theorem csum_Of_calls (k : Nat) (A00 : SkL Unit) (a0 : (List ByteArray)) (r : Int) (h : csum_Of.f k a0 = some r) : Pure Tryz.prog ([Row 1 (pl encS) noK A00 a0] ++ Glob) 67 #[slcV A00 a0.length] (.int .i64 r) := by
  intro w Z hS
  refine calls_of (args := [slcV A00 a0.length]) (L := [(0, slcV A00 a0.length)]) (N := 6) (S := Sat w Z [] [] ([Row 1 (pl encS) noK A00 a0] ++ Glob)) Tryz.func67 rfl rfl (Nat.le_of_ble_eq_true rfl) rfl hS ?_
  have hM := h
  clear h hS
  unfold csum_Of.f at hM
  refine WP.seq ?_
  refine WP.run [] [0, 2] (fun _ => [(0, slcV A00 a0.length), (2, .int .i64 0)]) (fun _ => []) (fun _ => []) (fun _ => by kernel_rfl) (fun _ => ?_)
  refine WP.seq ?_
  refine WP.region ?_
  refine WL.run 1 [] [2, 3] (fun _ => [(2, .int .i64 0), (3, slcV A00 a0.length)]) (fun _ => []) (fun _ => []) (fun _ => by kernel_rfl) (fun _ => ?_)
  obtain ⟨r1, h2, hM⟩ := bind_some hM
  refine WL.callP [] [] (csum_total_calls k A00 a0 _ h2) (sub_pick [0] (by kernel_rfl)) (by kernel_rfl) (by kernel_rfl) rfl ?_
  refine WL.run 2 [] [2] (fun _ => [(2, .int .i64 (i64 (65535 - r1)))]) (fun _ => []) (fun _ => []) (fun _ => by kernel_rfl) (fun _ => ?_)
  refine WP.done ?_
  obtain rfl := Option.some.inj hM
  exact WP.ret [] [] (.int .i64 (i64 (65535 - r1))) (by kernel_rfl) (fun w' hw => ⟨rfl, (hw.pick [] rfl).lessF [0] (by kernel_rfl)⟩)

end Go.Proofs.YtbodofjnfmjbpaaGreatDoor

namespace Go.Proofs.YtbodofjnfmjbpaaGreatDoor
open Go Eng
set_option linter.unusedVariables false
set_option linter.unusedSimpArgs false

/-! ### gangway/udp.Build: function 40 -/
def udp_Build.k1 (k : Nat) (t13 : ByteArray) (a2 : api_Udp) (x23 : Int) : Option (ByteArray × Int) :=
  (udp_word.f k x23).bind fun r24 =>
  (catS t13 r24).bind fun t26 =>
  (catS t26 a2.Body).bind fun t28 =>
  some (t28, 0)

def udp_Build.f (k : Nat) (a0 : Int) (a1 : Int) (a2 : api_Udp) : Option (ByteArray × Int) :=
  (udp_Check.f a2).bind fun r2 =>
  bif (r2 != 0) then
    some ((⟨#[]⟩ : ByteArray), r2)
  else
    (udp_word.f k a2.Src).bind fun r5 =>
    (udp_word.f k a2.Dst).bind fun r7 =>
    (catS r5 r7).bind fun t9 =>
    (udp_word.f k (i64 (8 + (a2.Body.size : Int)))).bind fun r11 =>
    (catS t9 r11).bind fun t13 =>
    bif !a2.NoSum then
      (csum_Head.f k a0 a1 17 (i64 (8 + (a2.Body.size : Int)))).bind fun r17 =>
      (csum_Of.f k ([r17, t13, a2.Body] : List ByteArray)).bind fun r20 =>
      bif (r20 == 0) then
        udp_Build.k1 k t13 a2 65535
      else
        udp_Build.k1 k t13 a2 r20
    else
      udp_Build.k1 k t13 a2 0

set_option maxRecDepth 100000 in
theorem udp_Build_calls (k : Nat) (a0 : Int) (a1 : Int) (a2 : api_Udp) (r : ByteArray × Int) (h : udp_Build.f k a0 a1 a2 = some r) : Pure Tryz.prog Glob 40 #[.int .u32 a0, .int .u32 a1, .agg #[.int .i64 a2.Src, .int .i64 a2.Dst, .bool a2.NoSum, .string a2.Body]] (.tuple #[.string r.1, .int .i64 r.2]) := by
  intro w Z hS
  refine calls_of (args := [.int .u32 a0, .int .u32 a1, .agg #[.int .i64 a2.Src, .int .i64 a2.Dst, .bool a2.NoSum, .string a2.Body]]) (L := [(0, .int .u32 a0), (1, .int .u32 a1), (2, .agg #[.int .i64 a2.Src, .int .i64 a2.Dst, .bool a2.NoSum, .string a2.Body])]) (N := 52) (S := Sat w Z [] [] Glob) Tryz.func40 rfl rfl (Nat.le_of_ble_eq_true rfl) rfl hS ?_
  have hM := h
  clear h hS
  unfold udp_Build.f at hM
  refine WP.less (Φ' := [] ++ Glob) (fun _ h => h) ?_
  refine WP.seq ?_
  refine WP.run [] [0, 1, 5, 6, 7] (fun b1 => [(0, .int .u32 a0), (1, .int .u32 a1), (5, .pointer (some ⟨b1, 0, none⟩)), (6, .string (⟨#[]⟩ : ByteArray)), (7, .int .i64 0)]) (fun b1 => [(b1, .cells #[.int .i64 a2.Src, .int .i64 a2.Dst, .bool a2.NoSum, .string a2.Body] 40 (0, 0))]) (fun b1 => []) (fun b1 => by kernel_rfl) (fun b1 => ?_)
  refine WP.seq ?_
  refine WP.seq ?_
  refine WP.region ?_
  refine WL.run 1 [0, 0, 0, 0] [0, 1, 5, 6, 7, 12] (fun _ => [(0, .int .u32 a0), (1, .int .u32 a1), (5, .pointer (some ⟨b1, 0, none⟩)), (6, .string (⟨#[]⟩ : ByteArray)), (7, .int .i64 0), (12, .agg #[.int .i64 a2.Src, .int .i64 a2.Dst, .bool a2.NoSum, .string a2.Body])]) (fun _ => [(b1, .cells #[.int .i64 a2.Src, .int .i64 a2.Dst, .bool a2.NoSum, .string a2.Body] 40 (0, 0))]) (fun _ => [b1, b1, b1, b1]) (fun _ => by kernel_rfl) (fun _ => ?_)
  obtain ⟨r2, h3, hM⟩ := bind_some hM
  refine WL.callP [] [] (udp_Check_calls a2 _ h3) (fun _ h => List.mem_append_right _ h) (by kernel_rfl) (by kernel_rfl) rfl ?_
  refine WL.run 1 [] [0, 1, 5, 6, 7, 8] (fun _ => [(0, .int .u32 a0), (1, .int .u32 a1), (5, .pointer (some ⟨b1, 0, none⟩)), (6, .string (⟨#[]⟩ : ByteArray)), (7, .int .i64 0), (8, .int .i64 r2)]) (fun _ => [(b1, .cells #[.int .i64 a2.Src, .int .i64 a2.Dst, .bool a2.NoSum, .string a2.Body] 40 (0, 0))]) (fun _ => []) (fun _ => by kernel_rfl) (fun _ => ?_)
  refine WP.done ?_
  refine WP.seq ?_
  refine WP.run [] [0, 1, 5, 6, 7, 8, 15] (fun _ => [(0, .int .u32 a0), (1, .int .u32 a1), (5, .pointer (some ⟨b1, 0, none⟩)), (6, .string (⟨#[]⟩ : ByteArray)), (7, .int .i64 0), (8, .int .i64 r2), (15, .bool (r2 != 0))]) (fun _ => [(b1, .cells #[.int .i64 a2.Src, .int .i64 a2.Dst, .bool a2.NoSum, .string a2.Body] 40 (0, 0))]) (fun _ => []) (fun _ => by kernel_rfl) (fun _ => ?_)
  refine WP.cond (r2 != 0) rfl rfl (fun c4 => ?_) (fun c4 => ?_)
  · replace hM := cond_t hM c4
    refine WP.seq ?_
    refine WP.run [] [0, 1, 5, 6, 7] (fun _ => [(0, .int .u32 a0), (1, .int .u32 a1), (5, .pointer (some ⟨b1, 0, none⟩)), (6, .string (⟨#[]⟩ : ByteArray)), (7, .int .i64 r2)]) (fun _ => [(b1, .cells #[.int .i64 a2.Src, .int .i64 a2.Dst, .bool a2.NoSum, .string a2.Body] 40 (0, 0))]) (fun _ => []) (fun _ => by kernel_rfl) (fun _ => ?_)
    obtain rfl := Option.some.inj hM
    exact WP.ret [] [] (.tuple #[.string (⟨#[]⟩ : ByteArray), .int .i64 r2]) (by kernel_rfl) (fun w' hw => ⟨rfl, (hw.pick [] rfl).less (fun _ h => List.mem_append_right _ h)⟩)
  · replace hM := cond_f hM c4
    refine WP.skip ?_
    refine WP.seq ?_
    refine WP.run [0] [0, 1, 5, 6, 7, 9] (fun _ => [(0, .int .u32 a0), (1, .int .u32 a1), (5, .pointer (some ⟨b1, 0, none⟩)), (6, .string (⟨#[]⟩ : ByteArray)), (7, .int .i64 0), (9, .int .i64 (i64 (8 + (a2.Body.size : Int))))]) (fun _ => [(b1, .cells #[.int .i64 a2.Src, .int .i64 a2.Dst, .bool a2.NoSum, .string a2.Body] 40 (0, 0))]) (fun _ => [b1]) (fun _ => by kernel_rfl) (fun _ => ?_)
    refine WP.seq ?_
    refine WP.quiet (by kernel_rfl) (by kernel_rfl) ?_
    refine QL.run 2 [0] [0, 1, 5, 6, 7, 9, 22] [b1] [(0, .int .u32 a0), (1, .int .u32 a1), (5, .pointer (some ⟨b1, 0, none⟩)), (6, .string (⟨#[]⟩ : ByteArray)), (7, .int .i64 0), (9, .int .i64 (i64 (8 + (a2.Body.size : Int)))), (22, .int .i64 a2.Src)] (by kernel_rfl) ?_
    obtain ⟨r5, h6, hM⟩ := bind_some hM
    refine QL.callP [] [] (udp_word_calls k a2.Src _ h6) (fun _ h => List.mem_append_right _ h) (by kernel_rfl) (by kernel_rfl) rfl ?_
    refine QL.run 2 [0] [0, 1, 5, 6, 7, 9, 23, 25] [b1] [(0, .int .u32 a0), (1, .int .u32 a1), (5, .pointer (some ⟨b1, 0, none⟩)), (6, .string (⟨#[]⟩ : ByteArray)), (7, .int .i64 0), (9, .int .i64 (i64 (8 + (a2.Body.size : Int)))), (23, .string r5), (25, .int .i64 a2.Dst)] (by kernel_rfl) ?_
    obtain ⟨r7, h8, hM⟩ := bind_some hM
    refine QL.callP [] [] (udp_word_calls k a2.Dst _ h8) (fun _ h => List.mem_append_right _ h) (by kernel_rfl) (by kernel_rfl) rfl ?_
    obtain ⟨t9, h10, hM⟩ := bind_some hM
    refine QL.val (fun _ => run_catS (a := r5) (b := r7) (by kernel_rfl) (by kernel_rfl) h10) (by kernel_rfl) (by kernel_rfl) rfl ?_
    refine QL.run 1 [] [0, 1, 5, 6, 7, 9, 27, 28] [] [(0, .int .u32 a0), (1, .int .u32 a1), (5, .pointer (some ⟨b1, 0, none⟩)), (6, .string (⟨#[]⟩ : ByteArray)), (7, .int .i64 0), (9, .int .i64 (i64 (8 + (a2.Body.size : Int)))), (27, .string t9), (28, .int .i64 (i64 (8 + (a2.Body.size : Int))))] (by kernel_rfl) ?_
    obtain ⟨r11, h12, hM⟩ := bind_some hM
    refine QL.callP [] [] (udp_word_calls k (i64 (8 + (a2.Body.size : Int))) _ h12) (fun _ h => List.mem_append_right _ h) (by kernel_rfl) (by kernel_rfl) rfl ?_
    obtain ⟨t13, h14, hM⟩ := bind_some hM
    refine QL.val (fun _ => run_catS (a := t9) (b := r11) (by kernel_rfl) (by kernel_rfl) h14) (by kernel_rfl) (by kernel_rfl) rfl ?_
    refine QL.run 1 [] [0, 1, 5, 6, 7, 9, 10] [] [(0, .int .u32 a0), (1, .int .u32 a1), (5, .pointer (some ⟨b1, 0, none⟩)), (6, .string (⟨#[]⟩ : ByteArray)), (7, .int .i64 0), (9, .int .i64 (i64 (8 + (a2.Body.size : Int)))), (10, .string t13)] (by kernel_rfl) ?_
    refine QL.done ?_
    refine WP.seq ?_
    refine WP.run [] [0, 1, 5, 6, 7, 9, 10, 11] (fun _ => [(0, .int .u32 a0), (1, .int .u32 a1), (5, .pointer (some ⟨b1, 0, none⟩)), (6, .string (⟨#[]⟩ : ByteArray)), (7, .int .i64 0), (9, .int .i64 (i64 (8 + (a2.Body.size : Int)))), (10, .string t13), (11, .int .i64 0)]) (fun _ => [(b1, .cells #[.int .i64 a2.Src, .int .i64 a2.Dst, .bool a2.NoSum, .string a2.Body] 40 (0, 0))]) (fun _ => []) (fun _ => by kernel_rfl) (fun _ => ?_)
    refine WP.seqJoin (σ := Int) (fun st => udp_Build.k1 k t13 a2 st = some r) (fun st => [(5, .pointer (some ⟨b1, 0, none⟩)), (6, .string (⟨#[]⟩ : ByteArray)), (7, .int .i64 0), (10, .string t13), (11, .int .i64 st)]) (fun st => Sat w Z [(b1, .cells #[.int .i64 a2.Src, .int .i64 a2.Dst, .bool a2.NoSum, .string a2.Body] 40 (0, 0))] [] ([] ++ Glob)) (fun st hM => ?_) (fun K1 => ?_)
    ·
      obtain ⟨x23, rfl⟩ : ∃ y, y = st := ⟨st, rfl⟩
      replace hM : udp_Build.k1 k t13 a2 x23 = some r := hM
      unfold udp_Build.k1 at hM
      show WP _ _ _ _ _ [(5, .pointer (some ⟨b1, 0, none⟩)), (6, .string (⟨#[]⟩ : ByteArray)), (7, .int .i64 0), (10, .string t13), (11, .int .i64 x23)] (Sat w Z [(b1, .cells #[.int .i64 a2.Src, .int .i64 a2.Dst, .bool a2.NoSum, .string a2.Body] 40 (0, 0))] [] ([] ++ Glob))
      refine WP.seq ?_
      refine WP.quiet (by kernel_rfl) (by kernel_rfl) ?_
      refine QL.run 2 [] [5, 6, 7, 45, 46] [] [(5, .pointer (some ⟨b1, 0, none⟩)), (6, .string (⟨#[]⟩ : ByteArray)), (7, .int .i64 0), (45, .string t13), (46, .int .i64 x23)] (by kernel_rfl) ?_
      obtain ⟨r24, h25, hM⟩ := bind_some hM
      refine QL.callP [] [] (udp_word_calls k x23 _ h25) (fun _ h => List.mem_append_right _ h) (by kernel_rfl) (by kernel_rfl) rfl ?_
      obtain ⟨t26, h27, hM⟩ := bind_some hM
      refine QL.val (fun _ => run_catS (a := t13) (b := r24) (by kernel_rfl) (by kernel_rfl) h27) (by kernel_rfl) (by kernel_rfl) rfl ?_
      refine QL.run 2 [0] [6, 7, 48, 50] [b1] [(6, .string (⟨#[]⟩ : ByteArray)), (7, .int .i64 0), (48, .string t26), (50, .string a2.Body)] (by kernel_rfl) ?_
      obtain ⟨t28, h29, hM⟩ := bind_some hM
      refine QL.val (fun _ => run_catS (a := t26) (b := a2.Body) (by kernel_rfl) (by kernel_rfl) h29) (by kernel_rfl) (by kernel_rfl) rfl ?_
      refine QL.run 2 [] [6, 7] [] [(6, .string t28), (7, .int .i64 0)] (by kernel_rfl) ?_
      refine QL.done ?_
      refine WP.keep [false] (by kernel_rfl : _ = []) ?_
      obtain rfl := Option.some.inj hM
      exact WP.ret [] [] (.tuple #[.string t28, .int .i64 0]) (by kernel_rfl) (fun w' hw => ⟨rfl, (hw.pick [] rfl).less (fun _ h => List.mem_append_right _ h)⟩)
    ·
      refine WP.seq ?_
      refine WP.run [0] [0, 1, 5, 6, 7, 9, 10, 11, 33] (fun _ => [(0, .int .u32 a0), (1, .int .u32 a1), (5, .pointer (some ⟨b1, 0, none⟩)), (6, .string (⟨#[]⟩ : ByteArray)), (7, .int .i64 0), (9, .int .i64 (i64 (8 + (a2.Body.size : Int)))), (10, .string t13), (11, .int .i64 0), (33, .bool (!a2.NoSum))]) (fun _ => [(b1, .cells #[.int .i64 a2.Src, .int .i64 a2.Dst, .bool a2.NoSum, .string a2.Body] 40 (0, 0))]) (fun _ => [b1]) (fun _ => by kernel_rfl) (fun _ => ?_)
      refine WP.cond (!a2.NoSum) rfl rfl (fun c15 => ?_) (fun c15 => ?_)
      · replace hM := cond_t hM c15
        refine WP.seq ?_
        obtain ⟨r17, h18, hM⟩ := bind_some hM
        refine WP.sub [0, 1, 5, 6, 7, 9, 10, 11] (L' := [(0, .int .u32 a0), (1, .int .u32 a1), (5, .pointer (some ⟨b1, 0, none⟩)), (6, .string (⟨#[]⟩ : ByteArray)), (7, .int .i64 0), (9, .int .i64 (i64 (8 + (a2.Body.size : Int)))), (10, .string t13), (11, .int .i64 0)]) (by kernel_rfl) ?_
        refine WP.mixed (X := Unit) 7 [.val (.int .u32 a0), .val (.int .u32 a1), .val (.int .i64 (i64 (8 + (a2.Body.size : Int)))), .val (.string r17), .val (.string t13), .val (.pointer (some ⟨b1, 3, none⟩)), .val (.string a2.Body)] [(b1, .cells #[.int .i64 a2.Src, .int .i64 a2.Dst, .bool a2.NoSum, .string a2.Body] 40 (0, 0))] [] (by kernel_rfl) (by kernel_rfl) (by kernel_rfl) (by kernel_rfl) (Heads.val (fun tt Ψ => OpV.run [] [] (by kernel_rfl) (fun _ => by kernel_rfl)) (Heads.val (fun tt Ψ => OpV.run [] [] (by kernel_rfl) (fun _ => by kernel_rfl)) (Heads.val (fun tt Ψ => OpV.run [] [] (by kernel_rfl) (fun _ => by kernel_rfl)) (Heads.val (fun tt Ψ => OpV.callF [] [] (fun _ h => (List.mem_append_right _ (List.mem_append_right _ h))) (csum_Head_calls k a0 a1 17 (i64 (8 + (a2.Body.size : Int))) _ h18)  (fun _ => by kernel_rfl)) (Heads.val (fun tt Ψ => OpV.run [] [] (by kernel_rfl) (fun _ => by kernel_rfl)) (Heads.val (fun tt Ψ => OpV.run [] [] (by kernel_rfl) (fun _ => by kernel_rfl)) (Heads.val (fun tt Ψ => OpV.run [0] [b1] (by kernel_rfl) (fun _ => by kernel_rfl)) Heads.nil))))))) (fun s16 tt => [(34, .int .u32 a0), (35, .int .u32 a1), (36, .int .i64 (i64 (8 + (a2.Body.size : Int)))), (37, .string r17), (38, .string t13), (39, .pointer (some ⟨b1, 3, none⟩)), (40, .string a2.Body), (0, .int .u32 a0), (1, .int .u32 a1), (5, .pointer (some ⟨b1, 0, none⟩)), (6, .string (⟨#[]⟩ : ByteArray)), (7, .int .i64 0), (9, .int .i64 (i64 (8 + (a2.Body.size : Int)))), (10, .string t13), (11, .int .i64 0)]) (fun s16 tt => [(b1, .cells #[.int .i64 a2.Src, .int .i64 a2.Dst, .bool a2.NoSum, .string a2.Body] 40 (0, 0))]) (fun tt => ([] ++ []) ++ Glob) (fun _ _ => by kernel_rfl) (fun _ _ => by kernel_rfl) (fun _ => by kernel_rfl) (fun s16 tt => ?_)
        refine WL.run 1 [] [5, 6, 7, 10, 11, 41] (fun b19 => [(5, .pointer (some ⟨b1, 0, none⟩)), (6, .string (⟨#[]⟩ : ByteArray)), (7, .int .i64 0), (10, .string t13), (11, .int .i64 0), (41, .slice (some ⟨b19, 0, none⟩) 3 3)]) (fun b19 => [(b1, .cells #[.int .i64 a2.Src, .int .i64 a2.Dst, .bool a2.NoSum, .string a2.Body] 40 (0, 0)), (b19, .cells #[.string r17, .string t13, .string a2.Body] 9 (0, 0))]) (fun b19 => []) (fun b19 => by kernel_rfl) (fun b19 => ?_)
        refine WL.ice (H' := [(b1, .cells #[.int .i64 a2.Src, .int .i64 a2.Dst, .bool a2.NoSum, .string a2.Body] 40 (0, 0))]) (Row 1 (pl encS) noK (SkL.at b19 3 (fun _ => ())) ([r17, t13, a2.Body] : List ByteArray)) 1 (b := b19) (ob := .cells #[.string r17, .string t13, .string a2.Body] 9 (0, 0)) (by kernel_rfl) [] [] (by kernel_rfl) (fun w hb hψ => row_of_block hb (fun _ _ => rfl) ⟨[], by kernel_rfl⟩ (Nat.le_of_ble_eq_true rfl) (InK.no _ _)) (by kernel_rfl) ?_
        obtain ⟨r20, h21, hM⟩ := bind_some hM
        refine WL.callP [] [] (csum_Of_calls k (SkL.at b19 3 (fun _ => ())) ([r17, t13, a2.Body] : List ByteArray) _ h21) (sub_pick [0] (by kernel_rfl)) (by kernel_rfl) (by kernel_rfl) rfl ?_
        refine WL.run 1 [] [5, 6, 7, 10, 11] (fun _ => [(5, .pointer (some ⟨b1, 0, none⟩)), (6, .string (⟨#[]⟩ : ByteArray)), (7, .int .i64 0), (10, .string t13), (11, .int .i64 r20)]) (fun _ => [(b1, .cells #[.int .i64 a2.Src, .int .i64 a2.Dst, .bool a2.NoSum, .string a2.Body] 40 (0, 0))]) (fun _ => []) (fun _ => by kernel_rfl) (fun _ => ?_)
        refine WP.done ?_
        refine WP.seq ?_
        refine WP.run [] [5, 6, 7, 10, 11, 44] (fun _ => [(5, .pointer (some ⟨b1, 0, none⟩)), (6, .string (⟨#[]⟩ : ByteArray)), (7, .int .i64 0), (10, .string t13), (11, .int .i64 r20), (44, .bool (r20 == 0))]) (fun _ => [(b1, .cells #[.int .i64 a2.Src, .int .i64 a2.Dst, .bool a2.NoSum, .string a2.Body] 40 (0, 0))]) (fun _ => []) (fun _ => by kernel_rfl) (fun _ => ?_)
        refine WP.cond (r20 == 0) rfl rfl (fun c22 => ?_) (fun c22 => ?_)
        · replace hM := cond_t hM c22
          refine WP.run [] [5, 6, 7, 10, 11] (fun _ => [(5, .pointer (some ⟨b1, 0, none⟩)), (6, .string (⟨#[]⟩ : ByteArray)), (7, .int .i64 0), (10, .string t13), (11, .int .i64 65535)]) (fun _ => [(b1, .cells #[.int .i64 a2.Src, .int .i64 a2.Dst, .bool a2.NoSum, .string a2.Body] 40 (0, 0))]) (fun _ => []) (fun _ => by kernel_rfl) (fun _ => ?_)
          exact WP.sub [5, 6, 7, 10, 11] (by kernel_rfl) (WP.pick [0] (by kernel_rfl) (by kernel_rfl) (WP.lessF [] (by kernel_rfl) (K1 65535 hM)))
        · replace hM := cond_f hM c22
          refine WP.skip ?_
          exact WP.sub [5, 6, 7, 10, 11] (by kernel_rfl) (WP.pick [0] (by kernel_rfl) (by kernel_rfl) (WP.lessF [] (by kernel_rfl) (K1 r20 hM)))
      · replace hM := cond_f hM c15
        refine WP.skip ?_
        exact WP.sub [5, 6, 7, 10, 11] (by kernel_rfl) (WP.pick [0] (by kernel_rfl) (by kernel_rfl) (WP.lessF [] (by kernel_rfl) (K1 0 hM)))

end Go.Proofs.YtbodofjnfmjbpaaGreatDoor

namespace Go.Proofs.YtbodofjnfmjbpaaGreatDoor
open Go Eng
set_option linter.unusedVariables false
set_option linter.unusedSimpArgs false

/-! ### gangway/inet.below: function 97 -/
def inet_below.f (a0 : Int) (a1 : Int) : Option (Bool) :=
  some ((decide (a0 ≥ 0)) && (decide (a0 < a1)))

set_option maxRecDepth 100000 in
theorem inet_below_calls (a0 : Int) (a1 : Int) (r : Bool) (h : inet_below.f a0 a1 = some r) : Pure Tryz.prog Glob 97 #[.int .i64 a0, .int .i64 a1] (.bool r) := by
  intro w Z hS
  refine calls_of (args := [.int .i64 a0, .int .i64 a1]) (L := [(0, .int .i64 a0), (1, .int .i64 a1)]) (N := 12) (S := Sat w Z [] [] Glob) Tryz.func97 rfl rfl (Nat.le_of_ble_eq_true rfl) rfl hS ?_
  have hM := h
  clear h hS
  unfold inet_below.f at hM
  refine WP.seq ?_
  refine WP.run [] [0, 1, 4] (fun _ => [(0, .int .i64 a0), (1, .int .i64 a1), (4, .bool false)]) (fun _ => []) (fun _ => []) (fun _ => by kernel_rfl) (fun _ => ?_)
  refine WP.seq ?_
  refine WP.region ?_
  refine WL.run 3 [] [0, 1, 4, 7] (fun _ => [(0, .int .i64 a0), (1, .int .i64 a1), (4, .bool false), (7, .bool (decide (a0 ≥ 0)))]) (fun _ => []) (fun _ => []) (fun _ => by kernel_rfl) (fun _ => ?_)
  refine WL.sub [0, 1, 4, 7] (L' := [(0, .int .i64 a0), (1, .int .i64 a1), (4, .bool false), (7, .bool (decide (a0 ≥ 0)))]) (by kernel_rfl) ?_
  refine WL.both (fun b' => [(0, .int .i64 a0), (1, .int .i64 a1), (4, .bool false), (7, .bool b')]) (decide (a0 ≥ 0)) 4 [] [] [4, 11] (fun b' => [(4, .bool false), (11, .bool (b' && (decide (a0 < a1))))]) [] [] (fun _ => by kernel_rfl) (fun _ => by kernel_rfl) ?_
  refine WL.run 1 [] [4] (fun _ => [(4, .bool ((decide (a0 ≥ 0)) && (decide (a0 < a1))))]) (fun _ => []) (fun _ => []) (fun _ => by kernel_rfl) (fun _ => ?_)
  refine WP.done ?_
  obtain rfl := Option.some.inj hM
  exact WP.ret [] [] (.bool ((decide (a0 ≥ 0)) && (decide (a0 < a1)))) (by kernel_rfl) (fun w' hw => ⟨rfl, hw.pick [] rfl⟩)

end Go.Proofs.YtbodofjnfmjbpaaGreatDoor
