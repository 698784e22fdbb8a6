/- The walks of the functions that the laws reach: each shows that a call returns what its plain model says, wherever the model gives an answer. -/
import Derived.Test.YtbodofjnfmjbpaaGreatDoorF1
import Derived.Test.YtbodofjnfmjbpaaGreatDoorF3
import Derived.Test.YtbodofjnfmjbpaaGreatDoorF2

namespace Go.Proofs.YtbodofjnfmjbpaaGreatDoor
open Go Eng
set_option linter.unusedVariables false
set_option linter.unusedSimpArgs false

/-! ### gangway/udp.Parse: function 91 -/
def udp_Parse.k1 : Option (api_Udp × Int) :=
  some ((api_Udp.mk 0 0 false (⟨#[]⟩ : ByteArray)), 70)

def udp_Parse.f (k : Nat) (a0 : Int) (a1 : Int) (a2 : ByteArray) : Option (api_Udp × Int) :=
  (udp_wrong.f k a0 a1 a2).bind fun (r2, r3) =>
  bif (r2 == 0) then
    udp_Parse.k1
  else
    bif (r2 == 2) then
      udp_Parse.k1
    else
      bif (r2 == 1) then
        some ((api_Udp.mk 0 0 false (⟨#[]⟩ : ByteArray)), 71)
      else
        bif (r2 == 3) then
          some ((api_Udp.mk 0 0 false (⟨#[]⟩ : ByteArray)), 72)
        else
          (octets_Get.f k a2 0 2).bind fun (r9, r10) =>
          (octets_Get.f k a2 2 2).bind fun (r12, r13) =>
          (sliceS a2 6 8).bind fun t16 =>
          (sliceS a2 8 r3).bind fun t18 =>
          some ((api_Udp.mk (i64 r9) (i64 r12) (t16.toList == (⟨#[0, 0]⟩ : ByteArray).toList) t18), 0)

set_option maxRecDepth 100000 in
theorem udp_Parse_calls (k : Nat) (a0 : Int) (a1 : Int) (a2 : ByteArray) (r : api_Udp × Int) (h : udp_Parse.f k a0 a1 a2 = some r) : Pure Tryz.prog Glob 91 #[.int .u32 a0, .int .u32 a1, .string a2] (.tuple #[.agg #[.int .i64 r.1.Src, .int .i64 r.1.Dst, .bool r.1.NoSum, .string r.1.Body], .int .i64 r.2]) := by
  intro w Z hS
  refine calls_of (args := [.int .u32 a0, .int .u32 a1, .string a2]) (L := [(0, .int .u32 a0), (1, .int .u32 a1), (2, .string a2)]) (N := 54) (S := Sat w Z [] [] Glob) Tryz.func91 rfl rfl (Nat.le_of_ble_eq_true rfl) rfl hS ?_
  have hM := h
  clear h hS
  unfold udp_Parse.f at hM
  refine WP.seq ?_
  refine WP.run [] [0, 1, 2, 6, 7] (fun b1 => [(0, .int .u32 a0), (1, .int .u32 a1), (2, .string a2), (6, .pointer (some ⟨b1, 0, none⟩)), (7, .int .i64 0)]) (fun b1 => [(b1, .cells #[.int .i64 0, .int .i64 0, .bool false, .string (⟨#[]⟩ : ByteArray)] 40 (0, 0))]) (fun b1 => []) (fun b1 => by kernel_rfl) (fun b1 => ?_)
  refine WP.seq ?_
  refine WP.region ?_
  refine WL.run 3 [] [2, 6, 7, 15, 16, 17] (fun _ => [(2, .string a2), (6, .pointer (some ⟨b1, 0, none⟩)), (7, .int .i64 0), (15, .int .u32 a0), (16, .int .u32 a1), (17, .string a2)]) (fun _ => [(b1, .cells #[.int .i64 0, .int .i64 0, .bool false, .string (⟨#[]⟩ : ByteArray)] 40 (0, 0))]) (fun _ => []) (fun _ => by kernel_rfl) (fun _ => ?_)
  obtain ⟨⟨r2, r3⟩, h4, hM⟩ := bind_some hM
  dsimp only at hM
  refine WL.callP [] [] (udp_wrong_calls k a0 a1 a2 _ h4) (fun _ h => h) (by kernel_rfl) (by kernel_rfl) rfl ?_
  refine WL.run 5 [] [2, 6, 7, 8, 9] (fun _ => [(2, .string a2), (6, .pointer (some ⟨b1, 0, none⟩)), (7, .int .i64 0), (8, .int .i64 r2), (9, .int .i64 r3)]) (fun _ => [(b1, .cells #[.int .i64 0, .int .i64 0, .bool false, .string (⟨#[]⟩ : ByteArray)] 40 (0, 0))]) (fun _ => []) (fun _ => by kernel_rfl) (fun _ => ?_)
  refine WP.done ?_
  refine WP.seq ?_
  refine WP.seq ?_
  refine WP.run [] [2, 6, 7, 9, 21] (fun _ => [(2, .string a2), (6, .pointer (some ⟨b1, 0, none⟩)), (7, .int .i64 0), (9, .int .i64 r3), (21, .int .i64 r2)]) (fun _ => [(b1, .cells #[.int .i64 0, .int .i64 0, .bool false, .string (⟨#[]⟩ : ByteArray)] 40 (0, 0))]) (fun _ => []) (fun _ => by kernel_rfl) (fun _ => ?_)
  refine WP.block ?_
  refine WP.seq ?_
  refine WP.block ?_
  refine WP.seq ?_
  refine WP.block ?_
  refine WP.seq ?_
  refine WP.blockJoin (σ := Unit) (fun st => udp_Parse.k1 = some r) (fun st => [(2, .string a2), (6, .pointer (some ⟨b1, 0, none⟩)), (7, .int .i64 0), (9, .int .i64 r3)]) (fun st => Sat w Z [(b1, .cells #[.int .i64 0, .int .i64 0, .bool false, .string (⟨#[]⟩ : ByteArray)] 40 (0, 0))] [] Glob) (fun st hM => ?_) (fun K1 => ?_)
  ·
    replace hM : udp_Parse.k1 = some r := hM
    unfold udp_Parse.k1 at hM
    show WP _ _ _ _ _ [(2, .string a2), (6, .pointer (some ⟨b1, 0, none⟩)), (7, .int .i64 0), (9, .int .i64 r3)] (Sat w Z [(b1, .cells #[.int .i64 0, .int .i64 0, .bool false, .string (⟨#[]⟩ : ByteArray)] 40 (0, 0))] [] Glob)
    refine WP.seq ?_
    refine WP.seq ?_
    refine WP.run [0, 0, 0, 0] [2, 6, 7, 9] (fun _ => [(2, .string a2), (6, .pointer (some ⟨b1, 0, none⟩)), (7, .int .i64 70), (9, .int .i64 r3)]) (fun _ => [(b1, .cells #[.int .i64 0, .int .i64 0, .bool false, .string (⟨#[]⟩ : ByteArray)] 40 (0, 0))]) (fun _ => [b1, b1, b1, b1]) (fun _ => by kernel_rfl) (fun _ => ?_)
    obtain rfl := Option.some.inj hM
    exact WP.ret [0, 0, 0, 0] [b1, b1, b1, b1] (.tuple #[.agg #[.int .i64 0, .int .i64 0, .bool false, .string (⟨#[]⟩ : ByteArray)], .int .i64 70]) (by kernel_rfl) (fun w' hw => ⟨rfl, hw.pick [] rfl⟩)
  ·
    refine WP.block ?_
    refine WP.seq ?_
    refine WP.seq ?_
    refine WP.seq ?_
    refine WP.run [] [2, 6, 7, 9, 21, 22] (fun _ => [(2, .string a2), (6, .pointer (some ⟨b1, 0, none⟩)), (7, .int .i64 0), (9, .int .i64 r3), (21, .int .i64 r2), (22, .bool (r2 == 0))]) (fun _ => [(b1, .cells #[.int .i64 0, .int .i64 0, .bool false, .string (⟨#[]⟩ : ByteArray)] 40 (0, 0))]) (fun _ => []) (fun _ => by kernel_rfl) (fun _ => ?_)
    refine WP.cond (r2 == 0) rfl rfl (fun c5 => ?_) (fun c5 => ?_)
    · replace hM := cond_t hM c5
      refine WP.exit rfl ?_
      refine WP.leave ?_
      exact WP.sub [2, 6, 7, 9] (by kernel_rfl) (WP.pick [0] (by kernel_rfl) (by kernel_rfl) (K1 () hM))
    · replace hM := cond_f hM c5
      refine WP.skip ?_
      refine WP.seq ?_
      refine WP.seq ?_
      refine WP.run [] [2, 6, 7, 9, 21, 24] (fun _ => [(2, .string a2), (6, .pointer (some ⟨b1, 0, none⟩)), (7, .int .i64 0), (9, .int .i64 r3), (21, .int .i64 r2), (24, .bool (r2 == 2))]) (fun _ => [(b1, .cells #[.int .i64 0, .int .i64 0, .bool false, .string (⟨#[]⟩ : ByteArray)] 40 (0, 0))]) (fun _ => []) (fun _ => by kernel_rfl) (fun _ => ?_)
      refine WP.cond (r2 == 2) rfl rfl (fun c6 => ?_) (fun c6 => ?_)
      · replace hM := cond_t hM c6
        refine WP.exit rfl ?_
        exact WP.sub [2, 6, 7, 9] (by kernel_rfl) (WP.pick [0] (by kernel_rfl) (by kernel_rfl) (K1 () hM))
      · replace hM := cond_f hM c6
        refine WP.skip ?_
        refine WP.seq ?_
        refine WP.seq ?_
        refine WP.run [] [2, 6, 7, 9, 21, 26] (fun _ => [(2, .string a2), (6, .pointer (some ⟨b1, 0, none⟩)), (7, .int .i64 0), (9, .int .i64 r3), (21, .int .i64 r2), (26, .bool (r2 == 1))]) (fun _ => [(b1, .cells #[.int .i64 0, .int .i64 0, .bool false, .string (⟨#[]⟩ : ByteArray)] 40 (0, 0))]) (fun _ => []) (fun _ => by kernel_rfl) (fun _ => ?_)
        refine WP.cond (r2 == 1) rfl rfl (fun c7 => ?_) (fun c7 => ?_)
        · replace hM := cond_t hM c7
          refine WP.exit rfl ?_
          refine WP.seq ?_
          refine WP.seq ?_
          refine WP.run [0, 0, 0, 0] [2, 6, 7, 9] (fun _ => [(2, .string a2), (6, .pointer (some ⟨b1, 0, none⟩)), (7, .int .i64 71), (9, .int .i64 r3)]) (fun _ => [(b1, .cells #[.int .i64 0, .int .i64 0, .bool false, .string (⟨#[]⟩ : ByteArray)] 40 (0, 0))]) (fun _ => [b1, b1, b1, b1]) (fun _ => by kernel_rfl) (fun _ => ?_)
          obtain rfl := Option.some.inj hM
          exact WP.ret [0, 0, 0, 0] [b1, b1, b1, b1] (.tuple #[.agg #[.int .i64 0, .int .i64 0, .bool false, .string (⟨#[]⟩ : ByteArray)], .int .i64 71]) (by kernel_rfl) (fun w' hw => ⟨rfl, hw.pick [] rfl⟩)
        · replace hM := cond_f hM c7
          refine WP.skip ?_
          refine WP.seq ?_
          refine WP.run [] [2, 6, 7, 9, 28] (fun _ => [(2, .string a2), (6, .pointer (some ⟨b1, 0, none⟩)), (7, .int .i64 0), (9, .int .i64 r3), (28, .bool (r2 == 3))]) (fun _ => [(b1, .cells #[.int .i64 0, .int .i64 0, .bool false, .string (⟨#[]⟩ : ByteArray)] 40 (0, 0))]) (fun _ => []) (fun _ => by kernel_rfl) (fun _ => ?_)
          refine WP.cond (r2 == 3) rfl rfl (fun c8 => ?_) (fun c8 => ?_)
          · replace hM := cond_t hM c8
            refine WP.exit rfl ?_
            refine WP.seq ?_
            refine WP.seq ?_
            refine WP.run [0, 0, 0, 0] [2, 6, 7, 9] (fun _ => [(2, .string a2), (6, .pointer (some ⟨b1, 0, none⟩)), (7, .int .i64 72), (9, .int .i64 r3)]) (fun _ => [(b1, .cells #[.int .i64 0, .int .i64 0, .bool false, .string (⟨#[]⟩ : ByteArray)] 40 (0, 0))]) (fun _ => [b1, b1, b1, b1]) (fun _ => by kernel_rfl) (fun _ => ?_)
            obtain rfl := Option.some.inj hM
            exact WP.ret [0, 0, 0, 0] [b1, b1, b1, b1] (.tuple #[.agg #[.int .i64 0, .int .i64 0, .bool false, .string (⟨#[]⟩ : ByteArray)], .int .i64 72]) (by kernel_rfl) (fun w' hw => ⟨rfl, hw.pick [] rfl⟩)
          · replace hM := cond_f hM c8
            refine WP.skip ?_
            refine WP.exit rfl ?_
            refine WP.seq ?_
            refine WP.region ?_
            refine WL.run 1 [] [2, 6, 7, 9, 34] (fun _ => [(2, .string a2), (6, .pointer (some ⟨b1, 0, none⟩)), (7, .int .i64 0), (9, .int .i64 r3), (34, .string a2)]) (fun _ => [(b1, .cells #[.int .i64 0, .int .i64 0, .bool false, .string (⟨#[]⟩ : ByteArray)] 40 (0, 0))]) (fun _ => []) (fun _ => by kernel_rfl) (fun _ => ?_)
            obtain ⟨⟨r9, r10⟩, h11, hM⟩ := bind_some hM
            dsimp only at hM
            refine WL.callP [] [] (octets_Get_calls k a2 0 2 _ h11) (fun _ h => h) (by kernel_rfl) (by kernel_rfl) rfl ?_
            refine WL.run 5 [] [2, 6, 7, 9, 10] (fun _ => [(2, .string a2), (6, .pointer (some ⟨b1, 0, none⟩)), (7, .int .i64 0), (9, .int .i64 r3), (10, .int .u64 r9)]) (fun _ => [(b1, .cells #[.int .i64 0, .int .i64 0, .bool false, .string (⟨#[]⟩ : ByteArray)] 40 (0, 0))]) (fun _ => []) (fun _ => by kernel_rfl) (fun _ => ?_)
            refine WP.done ?_
            refine WP.seq ?_
            refine WP.region ?_
            refine WL.run 1 [] [2, 6, 7, 9, 10, 39] (fun _ => [(2, .string a2), (6, .pointer (some ⟨b1, 0, none⟩)), (7, .int .i64 0), (9, .int .i64 r3), (10, .int .u64 r9), (39, .string a2)]) (fun _ => [(b1, .cells #[.int .i64 0, .int .i64 0, .bool false, .string (⟨#[]⟩ : ByteArray)] 40 (0, 0))]) (fun _ => []) (fun _ => by kernel_rfl) (fun _ => ?_)
            obtain ⟨⟨r12, r13⟩, h14, hM⟩ := bind_some hM
            dsimp only at hM
            refine WL.callP [] [] (octets_Get_calls k a2 2 2 _ h14) (fun _ h => h) (by kernel_rfl) (by kernel_rfl) rfl ?_
            refine WL.run 5 [] [2, 6, 7, 9, 10, 12] (fun _ => [(2, .string a2), (6, .pointer (some ⟨b1, 0, none⟩)), (7, .int .i64 0), (9, .int .i64 r3), (10, .int .u64 r9), (12, .int .u64 r12)]) (fun _ => [(b1, .cells #[.int .i64 0, .int .i64 0, .bool false, .string (⟨#[]⟩ : ByteArray)] 40 (0, 0))]) (fun _ => []) (fun _ => by kernel_rfl) (fun _ => ?_)
            refine WP.done ?_
            refine WP.seq ?_
            obtain ⟨t16, h17, hM⟩ := bind_some hM
            obtain ⟨t18, h19, hM⟩ := bind_some hM
            refine WP.sub [2, 6, 7, 9, 10, 12] (L' := [(2, .string a2), (6, .pointer (some ⟨b1, 0, none⟩)), (7, .int .i64 0), (9, .int .i64 r3), (10, .int .u64 r9), (12, .int .u64 r12)]) (by kernel_rfl) ?_
            refine WP.mixed (X := Unit) 10 [.val (.int .u64 r9), .val (.int .i64 (i64 r9)), .val (.int .u64 r12), .val (.int .i64 (i64 r12)), .val (.string a2), .val (.string t16), .val (.bool (t16.toList == (⟨#[0, 0]⟩ : ByteArray).toList)), .val (.string a2), .val (.int .i64 r3), .val (.string t18)] [(b1, .cells #[.int .i64 0, .int .i64 0, .bool false, .string (⟨#[]⟩ : ByteArray)] 40 (0, 0))] [] (by kernel_rfl) (by kernel_rfl) (by kernel_rfl) (by kernel_rfl) (Heads.val (fun tt Ψ => OpV.run [] [] (by kernel_rfl) (fun _ => by kernel_rfl)) (Heads.val (fun tt Ψ => OpV.run [] [] (by kernel_rfl) (fun _ => by kernel_rfl)) (Heads.val (fun tt Ψ => OpV.run [] [] (by kernel_rfl) (fun _ => by kernel_rfl)) (Heads.val (fun tt Ψ => OpV.run [] [] (by kernel_rfl) (fun _ => by kernel_rfl)) (Heads.val (fun tt Ψ => OpV.run [] [] (by kernel_rfl) (fun _ => by kernel_rfl)) (Heads.val (fun tt Ψ => OpV.val (fun _ => run_sliceS (s := a2) (kl := .i64) (kh := .i64) (l := 6) (h := 8) (by kernel_rfl) (by kernel_rfl) (by kernel_rfl) (by kernel_rfl) h17) (by kernel_rfl)) (Heads.val (fun tt Ψ => OpV.run [] [] (by kernel_rfl) (fun _ => by kernel_rfl)) (Heads.val (fun tt Ψ => OpV.run [] [] (by kernel_rfl) (fun _ => by kernel_rfl)) (Heads.val (fun tt Ψ => OpV.run [] [] (by kernel_rfl) (fun _ => by kernel_rfl)) (Heads.val (fun tt Ψ => OpV.val (fun _ => run_sliceS (s := a2) (kl := .i64) (kh := .i64) (l := 8) (h := r3) (by kernel_rfl) (by kernel_rfl) (by kernel_rfl) (by kernel_rfl) h19) (by kernel_rfl)) Heads.nil)))))))))) (fun s15 tt => [(43, .int .u64 r9), (44, .int .i64 (i64 r9)), (45, .int .u64 r12), (46, .int .i64 (i64 r12)), (47, .string a2), (48, .string t16), (49, .bool (t16.toList == (⟨#[0, 0]⟩ : ByteArray).toList)), (50, .string a2), (51, .int .i64 r3), (52, .string t18), (2, .string a2), (6, .pointer (some ⟨b1, 0, none⟩)), (7, .int .i64 0), (9, .int .i64 r3), (10, .int .u64 r9), (12, .int .u64 r12)]) (fun s15 tt => [(b1, .cells #[.int .i64 0, .int .i64 0, .bool false, .string (⟨#[]⟩ : ByteArray)] 40 (0, 0))]) (fun tt => Glob) (fun _ _ => by kernel_rfl) (fun _ _ => by kernel_rfl) (fun _ => by kernel_rfl) (fun s15 tt => ?_)
            refine WL.run 3 [0, 0, 0, 0] [6, 7] (fun _ => [(6, .pointer (some ⟨b1, 0, none⟩)), (7, .int .i64 0)]) (fun _ => [(b1, .cells #[.int .i64 (i64 r9), .int .i64 (i64 r12), .bool (t16.toList == (⟨#[0, 0]⟩ : ByteArray).toList), .string t18] 40 (0, 0))]) (fun _ => [b1, b1, b1, b1]) (fun _ => by kernel_rfl) (fun _ => ?_)
            refine WP.done ?_
            obtain rfl := Option.some.inj hM
            exact WP.ret [0, 0, 0, 0] [b1, b1, b1, b1] (.tuple #[.agg #[.int .i64 (i64 r9), .int .i64 (i64 r12), .bool (t16.toList == (⟨#[0, 0]⟩ : ByteArray).toList), .string t18], .int .i64 0]) (by kernel_rfl) (fun w' hw => ⟨rfl, hw.pick [] rfl⟩)

end Go.Proofs.YtbodofjnfmjbpaaGreatDoor

namespace Go.Proofs.YtbodofjnfmjbpaaGreatDoor
open Go Eng
set_option linter.unusedVariables false
set_option linter.unusedSimpArgs false

/-! ### gangway/station.datagram: function 58 -/
def station_datagram.f (k : Nat) (a0 : api_Ip) : Option (api_Udp × Un2) :=
  (udp_Parse.f k a0.Src a0.Dst a0.Body).bind fun (r2, r3) =>
  bif ((a0.Proto != 17) || (r3 != 0)) then
    (station_not.f (⟨#[100, 97, 116, 97, 103, 114, 97, 109]⟩ : ByteArray) 6).bind fun r8 =>
    some (r2, some (r8.1, r8.2))
  else
    bif (r2.Dst != 4789) then
      (station_not.f (⟨#[100, 97, 116, 97, 103, 114, 97, 109]⟩ : ByteArray) 7).bind fun r12 =>
      some (r2, some (r12.1, r12.2))
    else
      some (r2, none)

set_option maxRecDepth 100000 in
theorem station_datagram_calls (k : Nat) (a0 : api_Ip) (r : api_Udp × Un2) (h : station_datagram.f k a0 = some r) : Pure Tryz.prog Glob 58 #[.agg #[.int .i64 a0.Tos, .int .i64 a0.Id, .bool a0.Whole, .bool a0.More, .int .i64 a0.Off, .int .i64 a0.Ttl, .int .i64 a0.Proto, .int .u32 a0.Src, .int .u32 a0.Dst, .string a0.Body]] (.tuple #[.agg #[.int .i64 r.1.Src, .int .i64 r.1.Dst, .bool r.1.NoSum, .string r.1.Body], Un2.v r.2]) := by
  intro w Z hS
  refine calls_of (args := [.agg #[.int .i64 a0.Tos, .int .i64 a0.Id, .bool a0.Whole, .bool a0.More, .int .i64 a0.Off, .int .i64 a0.Ttl, .int .i64 a0.Proto, .int .u32 a0.Src, .int .u32 a0.Dst, .string a0.Body]]) (L := [(0, .agg #[.int .i64 a0.Tos, .int .i64 a0.Id, .bool a0.Whole, .bool a0.More, .int .i64 a0.Off, .int .i64 a0.Ttl, .int .i64 a0.Proto, .int .u32 a0.Src, .int .u32 a0.Dst, .string a0.Body])]) (N := 33) (S := Sat w Z [] [] Glob) Tryz.func58 rfl rfl (Nat.le_of_ble_eq_true rfl) rfl hS ?_
  have hM := h
  clear h hS
  unfold station_datagram.f at hM
  refine WP.seq ?_
  refine WP.run [] [1, 2, 3] (fun b1 => [(1, .pointer (some ⟨b1, 0, none⟩)), (2, .pointer (some ⟨(b1 + 1), 0, none⟩)), (3, .nilIface)]) (fun b1 => [(b1, .cells #[.int .i64 a0.Tos, .int .i64 a0.Id, .bool a0.Whole, .bool a0.More, .int .i64 a0.Off, .int .i64 a0.Ttl, .int .i64 a0.Proto, .int .u32 a0.Src, .int .u32 a0.Dst, .string a0.Body] 91 (0, 0)), ((b1 + 1), .cells #[.int .i64 0, .int .i64 0, .bool false, .string (⟨#[]⟩ : ByteArray)] 40 (0, 0))]) (fun b1 => []) (fun b1 => by kernel_rfl) (fun b1 => ?_)
  refine WP.seq ?_
  refine WP.region ?_
  refine WL.run 6 [0, 0, 0] [1, 2, 3, 8, 10, 12] (fun _ => [(1, .pointer (some ⟨b1, 0, none⟩)), (2, .pointer (some ⟨(b1 + 1), 0, none⟩)), (3, .nilIface), (8, .int .u32 a0.Src), (10, .int .u32 a0.Dst), (12, .string a0.Body)]) (fun _ => [(b1, .cells #[.int .i64 a0.Tos, .int .i64 a0.Id, .bool a0.Whole, .bool a0.More, .int .i64 a0.Off, .int .i64 a0.Ttl, .int .i64 a0.Proto, .int .u32 a0.Src, .int .u32 a0.Dst, .string a0.Body] 91 (0, 0)), ((b1 + 1), .cells #[.int .i64 0, .int .i64 0, .bool false, .string (⟨#[]⟩ : ByteArray)] 40 (0, 0))]) (fun _ => [b1, b1, b1]) (fun _ => by kernel_rfl) (fun _ => ?_)
  obtain ⟨⟨r2, r3⟩, h4, hM⟩ := bind_some hM
  dsimp only at hM
  refine WL.callP [] [] (udp_Parse_calls k a0.Src a0.Dst a0.Body _ h4) (fun _ h => h) (by kernel_rfl) (by kernel_rfl) rfl ?_
  refine WL.run 6 [2, 2, 2, 2] [1, 2, 3, 4, 5] (fun b5 => [(1, .pointer (some ⟨b1, 0, none⟩)), (2, .pointer (some ⟨(b1 + 1), 0, none⟩)), (3, .nilIface), (4, .pointer (some ⟨b5, 0, none⟩)), (5, .int .i64 r3)]) (fun b5 => [(b1, .cells #[.int .i64 a0.Tos, .int .i64 a0.Id, .bool a0.Whole, .bool a0.More, .int .i64 a0.Off, .int .i64 a0.Ttl, .int .i64 a0.Proto, .int .u32 a0.Src, .int .u32 a0.Dst, .string a0.Body] 91 (0, 0)), ((b1 + 1), .cells #[.int .i64 0, .int .i64 0, .bool false, .string (⟨#[]⟩ : ByteArray)] 40 (0, 0)), (b5, .cells #[.int .i64 r2.Src, .int .i64 r2.Dst, .bool r2.NoSum, .string r2.Body] 40 (0, 0))]) (fun b5 => [b5, b5, b5, b5]) (fun b5 => by kernel_rfl) (fun b5 => ?_)
  refine WP.done ?_
  refine WP.seq ?_
  refine WP.block ?_
  refine WP.seq ?_
  refine WP.region ?_
  refine WL.run 4 [0] [2, 3, 4, 5, 20] (fun _ => [(2, .pointer (some ⟨(b1 + 1), 0, none⟩)), (3, .nilIface), (4, .pointer (some ⟨b5, 0, none⟩)), (5, .int .i64 r3), (20, .bool (a0.Proto != 17))]) (fun _ => [(b1, .cells #[.int .i64 a0.Tos, .int .i64 a0.Id, .bool a0.Whole, .bool a0.More, .int .i64 a0.Off, .int .i64 a0.Ttl, .int .i64 a0.Proto, .int .u32 a0.Src, .int .u32 a0.Dst, .string a0.Body] 91 (0, 0)), ((b1 + 1), .cells #[.int .i64 0, .int .i64 0, .bool false, .string (⟨#[]⟩ : ByteArray)] 40 (0, 0)), (b5, .cells #[.int .i64 r2.Src, .int .i64 r2.Dst, .bool r2.NoSum, .string r2.Body] 40 (0, 0))]) (fun _ => [b1]) (fun _ => by kernel_rfl) (fun _ => ?_)
  refine WL.sub [2, 3, 4, 5, 20] (L' := [(2, .pointer (some ⟨(b1 + 1), 0, none⟩)), (3, .nilIface), (4, .pointer (some ⟨b5, 0, none⟩)), (5, .int .i64 r3), (20, .bool (a0.Proto != 17))]) (by kernel_rfl) ?_
  refine WL.both (fun b' => [(2, .pointer (some ⟨(b1 + 1), 0, none⟩)), (3, .nilIface), (4, .pointer (some ⟨b5, 0, none⟩)), (5, .int .i64 r3), (20, .bool b')]) (a0.Proto != 17) 3 [] [] [2, 3, 4, 23] (fun b' => [(2, .pointer (some ⟨(b1 + 1), 0, none⟩)), (3, .nilIface), (4, .pointer (some ⟨b5, 0, none⟩)), (23, .bool (b' || (r3 != 0)))]) [] [] (fun _ => by kernel_rfl) (fun _ => by kernel_rfl) ?_
  refine WL.run 1 [] [2, 3, 4, 16] (fun _ => [(2, .pointer (some ⟨(b1 + 1), 0, none⟩)), (3, .nilIface), (4, .pointer (some ⟨b5, 0, none⟩)), (16, .bool ((a0.Proto != 17) || (r3 != 0)))]) (fun _ => [(b1, .cells #[.int .i64 a0.Tos, .int .i64 a0.Id, .bool a0.Whole, .bool a0.More, .int .i64 a0.Off, .int .i64 a0.Ttl, .int .i64 a0.Proto, .int .u32 a0.Src, .int .u32 a0.Dst, .string a0.Body] 91 (0, 0)), ((b1 + 1), .cells #[.int .i64 0, .int .i64 0, .bool false, .string (⟨#[]⟩ : ByteArray)] 40 (0, 0)), (b5, .cells #[.int .i64 r2.Src, .int .i64 r2.Dst, .bool r2.NoSum, .string r2.Body] 40 (0, 0))]) (fun _ => []) (fun _ => by kernel_rfl) (fun _ => ?_)
  refine WP.done ?_
  refine WP.keep [false, true, true] (by kernel_rfl : _ = [((b1 + 1), .cells #[.int .i64 0, .int .i64 0, .bool false, .string (⟨#[]⟩ : ByteArray)] 40 (0, 0)), (b5, .cells #[.int .i64 r2.Src, .int .i64 r2.Dst, .bool r2.NoSum, .string r2.Body] 40 (0, 0))]) ?_
  refine WP.cond ((a0.Proto != 17) || (r3 != 0)) rfl rfl (fun c6 => ?_) (fun c6 => ?_)
  · replace hM := cond_t hM c6
    refine WP.seq ?_
    obtain ⟨r8, h9, hM⟩ := bind_some hM
    refine WP.sub [2, 3, 4] (L' := [(2, .pointer (some ⟨(b1 + 1), 0, none⟩)), (3, .nilIface), (4, .pointer (some ⟨b5, 0, none⟩))]) (by kernel_rfl) ?_
    refine WP.mixed (X := Unit) 2 [.val (.agg #[.int .i64 r2.Src, .int .i64 r2.Dst, .bool r2.NoSum, .string r2.Body]), .val (.iface 138 (.agg #[.string r8.1, .iface 80 (.agg #[.int .i64 r8.2.n])]))] [((b1 + 1), .cells #[.int .i64 0, .int .i64 0, .bool false, .string (⟨#[]⟩ : ByteArray)] 40 (0, 0)), (b5, .cells #[.int .i64 r2.Src, .int .i64 r2.Dst, .bool r2.NoSum, .string r2.Body] 40 (0, 0))] [] (by kernel_rfl) (by kernel_rfl) (by kernel_rfl) (by kernel_rfl) (Heads.val (fun tt Ψ => OpV.run [1, 1, 1, 1] [b5, b5, b5, b5] (by kernel_rfl) (fun _ => by kernel_rfl)) (Heads.val (fun tt Ψ => OpV.callF [] [] (fun _ h => (List.mem_append_right _ h)) (station_not_calls (⟨#[100, 97, 116, 97, 103, 114, 97, 109]⟩ : ByteArray) 6 _ h9)  (fun _ => by kernel_rfl)) Heads.nil)) (fun s7 tt => [(24, .agg #[.int .i64 r2.Src, .int .i64 r2.Dst, .bool r2.NoSum, .string r2.Body]), (25, .iface 138 (.agg #[.string r8.1, .iface 80 (.agg #[.int .i64 r8.2.n])])), (2, .pointer (some ⟨(b1 + 1), 0, none⟩)), (3, .nilIface), (4, .pointer (some ⟨b5, 0, none⟩))]) (fun s7 tt => [((b1 + 1), .cells #[.int .i64 0, .int .i64 0, .bool false, .string (⟨#[]⟩ : ByteArray)] 40 (0, 0)), (b5, .cells #[.int .i64 r2.Src, .int .i64 r2.Dst, .bool r2.NoSum, .string r2.Body] 40 (0, 0))]) (fun tt => Glob) (fun _ _ => by kernel_rfl) (fun _ _ => by kernel_rfl) (fun _ => by kernel_rfl) (fun s7 tt => ?_)
    refine WL.run 2 [0, 0, 0, 0] [2, 3, 4] (fun _ => [(2, .pointer (some ⟨(b1 + 1), 0, none⟩)), (3, .iface 138 (.agg #[.string r8.1, .iface 80 (.agg #[.int .i64 r8.2.n])])), (4, .pointer (some ⟨b5, 0, none⟩))]) (fun _ => [((b1 + 1), .cells #[.int .i64 r2.Src, .int .i64 r2.Dst, .bool r2.NoSum, .string r2.Body] 40 (0, 0)), (b5, .cells #[.int .i64 r2.Src, .int .i64 r2.Dst, .bool r2.NoSum, .string r2.Body] 40 (0, 0))]) (fun _ => [(b1 + 1), (b1 + 1), (b1 + 1), (b1 + 1)]) (fun _ => by kernel_rfl) (fun _ => ?_)
    refine WP.done ?_
    obtain rfl := Option.some.inj hM
    exact WP.ret [0, 0, 0, 0] [(b1 + 1), (b1 + 1), (b1 + 1), (b1 + 1)] (.tuple #[.agg #[.int .i64 r2.Src, .int .i64 r2.Dst, .bool r2.NoSum, .string r2.Body], .iface 138 (.agg #[.string r8.1, .iface 80 (.agg #[.int .i64 r8.2.n])])]) (by kernel_rfl) (fun w' hw => ⟨rfl, hw.pick [] rfl⟩)
  · replace hM := cond_f hM c6
    refine WP.seq ?_
    refine WP.run [1] [2, 3, 4, 26] (fun _ => [(2, .pointer (some ⟨(b1 + 1), 0, none⟩)), (3, .nilIface), (4, .pointer (some ⟨b5, 0, none⟩)), (26, .bool (r2.Dst != 4789))]) (fun _ => [((b1 + 1), .cells #[.int .i64 0, .int .i64 0, .bool false, .string (⟨#[]⟩ : ByteArray)] 40 (0, 0)), (b5, .cells #[.int .i64 r2.Src, .int .i64 r2.Dst, .bool r2.NoSum, .string r2.Body] 40 (0, 0))]) (fun _ => [b5]) (fun _ => by kernel_rfl) (fun _ => ?_)
    refine WP.cond (r2.Dst != 4789) rfl rfl (fun c10 => ?_) (fun c10 => ?_)
    · replace hM := cond_t hM c10
      refine WP.seq ?_
      obtain ⟨r12, h13, hM⟩ := bind_some hM
      refine WP.sub [2, 3, 4] (L' := [(2, .pointer (some ⟨(b1 + 1), 0, none⟩)), (3, .nilIface), (4, .pointer (some ⟨b5, 0, none⟩))]) (by kernel_rfl) ?_
      refine WP.mixed (X := Unit) 2 [.val (.agg #[.int .i64 r2.Src, .int .i64 r2.Dst, .bool r2.NoSum, .string r2.Body]), .val (.iface 138 (.agg #[.string r12.1, .iface 80 (.agg #[.int .i64 r12.2.n])]))] [((b1 + 1), .cells #[.int .i64 0, .int .i64 0, .bool false, .string (⟨#[]⟩ : ByteArray)] 40 (0, 0)), (b5, .cells #[.int .i64 r2.Src, .int .i64 r2.Dst, .bool r2.NoSum, .string r2.Body] 40 (0, 0))] [] (by kernel_rfl) (by kernel_rfl) (by kernel_rfl) (by kernel_rfl) (Heads.val (fun tt Ψ => OpV.run [1, 1, 1, 1] [b5, b5, b5, b5] (by kernel_rfl) (fun _ => by kernel_rfl)) (Heads.val (fun tt Ψ => OpV.callF [] [] (fun _ h => (List.mem_append_right _ h)) (station_not_calls (⟨#[100, 97, 116, 97, 103, 114, 97, 109]⟩ : ByteArray) 7 _ h13)  (fun _ => by kernel_rfl)) Heads.nil)) (fun s11 tt => [(30, .agg #[.int .i64 r2.Src, .int .i64 r2.Dst, .bool r2.NoSum, .string r2.Body]), (31, .iface 138 (.agg #[.string r12.1, .iface 80 (.agg #[.int .i64 r12.2.n])])), (2, .pointer (some ⟨(b1 + 1), 0, none⟩)), (3, .nilIface), (4, .pointer (some ⟨b5, 0, none⟩))]) (fun s11 tt => [((b1 + 1), .cells #[.int .i64 0, .int .i64 0, .bool false, .string (⟨#[]⟩ : ByteArray)] 40 (0, 0)), (b5, .cells #[.int .i64 r2.Src, .int .i64 r2.Dst, .bool r2.NoSum, .string r2.Body] 40 (0, 0))]) (fun tt => Glob) (fun _ _ => by kernel_rfl) (fun _ _ => by kernel_rfl) (fun _ => by kernel_rfl) (fun s11 tt => ?_)
      refine WL.run 2 [0, 0, 0, 0] [2, 3, 4] (fun _ => [(2, .pointer (some ⟨(b1 + 1), 0, none⟩)), (3, .iface 138 (.agg #[.string r12.1, .iface 80 (.agg #[.int .i64 r12.2.n])])), (4, .pointer (some ⟨b5, 0, none⟩))]) (fun _ => [((b1 + 1), .cells #[.int .i64 r2.Src, .int .i64 r2.Dst, .bool r2.NoSum, .string r2.Body] 40 (0, 0)), (b5, .cells #[.int .i64 r2.Src, .int .i64 r2.Dst, .bool r2.NoSum, .string r2.Body] 40 (0, 0))]) (fun _ => [(b1 + 1), (b1 + 1), (b1 + 1), (b1 + 1)]) (fun _ => by kernel_rfl) (fun _ => ?_)
      refine WP.done ?_
      obtain rfl := Option.some.inj hM
      exact WP.ret [0, 0, 0, 0] [(b1 + 1), (b1 + 1), (b1 + 1), (b1 + 1)] (.tuple #[.agg #[.int .i64 r2.Src, .int .i64 r2.Dst, .bool r2.NoSum, .string r2.Body], .iface 138 (.agg #[.string r12.1, .iface 80 (.agg #[.int .i64 r12.2.n])])]) (by kernel_rfl) (fun w' hw => ⟨rfl, hw.pick [] rfl⟩)
    · replace hM := cond_f hM c10
      refine WP.skip ?_
      refine WP.leave ?_
      refine WP.seq ?_
      refine WP.run [1, 1, 1, 1, 0, 0, 0, 0] [2, 3] (fun _ => [(2, .pointer (some ⟨(b1 + 1), 0, none⟩)), (3, .nilIface)]) (fun _ => [((b1 + 1), .cells #[.int .i64 r2.Src, .int .i64 r2.Dst, .bool r2.NoSum, .string r2.Body] 40 (0, 0)), (b5, .cells #[.int .i64 r2.Src, .int .i64 r2.Dst, .bool r2.NoSum, .string r2.Body] 40 (0, 0))]) (fun _ => [(b1 + 1), (b1 + 1), (b1 + 1), (b1 + 1), b5, b5, b5, b5]) (fun _ => by kernel_rfl) (fun _ => ?_)
      refine WP.keep [true, false] (by kernel_rfl : _ = [((b1 + 1), .cells #[.int .i64 r2.Src, .int .i64 r2.Dst, .bool r2.NoSum, .string r2.Body] 40 (0, 0))]) ?_
      obtain rfl := Option.some.inj hM
      exact WP.ret [0, 0, 0, 0] [(b1 + 1), (b1 + 1), (b1 + 1), (b1 + 1)] (.tuple #[.agg #[.int .i64 r2.Src, .int .i64 r2.Dst, .bool r2.NoSum, .string r2.Body], .nilIface]) (by kernel_rfl) (fun w' hw => ⟨rfl, hw.pick [] rfl⟩)

end Go.Proofs.YtbodofjnfmjbpaaGreatDoor

namespace Go.Proofs.YtbodofjnfmjbpaaGreatDoor
open Go Eng
set_option linter.unusedVariables false
set_option linter.unusedSimpArgs false

/-! ### gangway/station.got: function 33 -/
def station_got.f (k : Nat) (a0 : Int) (a1 : Int) (a2 : api_Frame) : Option (api_Got × Un2) :=
  (station_framed.f a0 a2).bind fun r2 =>
  match r2 with
  | none =>
    (station_packet.f k a1 a2.Body).bind fun (r6, r7) =>
    match r7 with
    | none =>
      (station_datagram.f k r6).bind fun (r12, r13) =>
      match r13 with
      | none =>
        some ((api_Got.mk 0 r6.Src r12), none)
      | some (q16, q17) =>
        some ((api_Got.mk 0 0 (api_Udp.mk 0 0 false (⟨#[]⟩ : ByteArray))), some (q16, q17))
    | some (q10, q11) =>
      some ((api_Got.mk 0 0 (api_Udp.mk 0 0 false (⟨#[]⟩ : ByteArray))), some (q10, q11))
  | some (q4, q5) =>
    some ((api_Got.mk 0 0 (api_Udp.mk 0 0 false (⟨#[]⟩ : ByteArray))), some (q4, q5))

set_option maxRecDepth 100000 in
theorem station_got_calls (k : Nat) (a0 : Int) (a1 : Int) (a2 : api_Frame) (r : api_Got × Un2) (h : station_got.f k a0 a1 a2 = some r) : Pure Tryz.prog Glob 33 #[.int .u64 a0, .int .u32 a1, .agg #[.int .u64 a2.Dst, .int .u64 a2.Src, .bool a2.Tag.Has, .int .i64 a2.Tag.Pri, .bool a2.Tag.Dei, .int .i64 a2.Tag.Vid, .int .i64 a2.Type_, .string a2.Body]] (.tuple #[.agg #[.int .i64 r.1.Why, .int .u32 r.1.Src, .int .i64 r.1.U.Src, .int .i64 r.1.U.Dst, .bool r.1.U.NoSum, .string r.1.U.Body], Un2.v r.2]) := by
  intro w Z hS
  refine calls_of (args := [.int .u64 a0, .int .u32 a1, .agg #[.int .u64 a2.Dst, .int .u64 a2.Src, .bool a2.Tag.Has, .int .i64 a2.Tag.Pri, .bool a2.Tag.Dei, .int .i64 a2.Tag.Vid, .int .i64 a2.Type_, .string a2.Body]]) (L := [(0, .int .u64 a0), (1, .int .u32 a1), (2, .agg #[.int .u64 a2.Dst, .int .u64 a2.Src, .bool a2.Tag.Has, .int .i64 a2.Tag.Pri, .bool a2.Tag.Dei, .int .i64 a2.Tag.Vid, .int .i64 a2.Type_, .string a2.Body])]) (N := 43) (S := Sat w Z [] [] Glob) Tryz.func33 rfl rfl (Nat.le_of_ble_eq_true rfl) rfl hS ?_
  have hM := h
  clear h hS
  unfold station_got.f at hM
  refine WP.seq ?_
  refine WP.run [] [0, 1, 5, 6, 7] (fun b1 => [(0, .int .u64 a0), (1, .int .u32 a1), (5, .pointer (some ⟨b1, 0, none⟩)), (6, .pointer (some ⟨(b1 + 1), 0, none⟩)), (7, .nilIface)]) (fun b1 => [(b1, .cells #[.int .u64 a2.Dst, .int .u64 a2.Src, .bool a2.Tag.Has, .int .i64 a2.Tag.Pri, .bool a2.Tag.Dei, .int .i64 a2.Tag.Vid, .int .i64 a2.Type_, .string a2.Body] 29 (0, 0)), ((b1 + 1), .cells #[.int .i64 0, .int .u32 0, .int .i64 0, .int .i64 0, .bool false, .string (⟨#[]⟩ : ByteArray)] 47 (0, 0))]) (fun b1 => []) (fun b1 => by kernel_rfl) (fun b1 => ?_)
  refine WP.seq ?_
  refine WP.seq ?_
  refine WP.region ?_
  refine WL.run 2 [0, 0, 0, 0, 0, 0, 0, 0] [1, 5, 6, 7, 12, 13] (fun _ => [(1, .int .u32 a1), (5, .pointer (some ⟨b1, 0, none⟩)), (6, .pointer (some ⟨(b1 + 1), 0, none⟩)), (7, .nilIface), (12, .int .u64 a0), (13, .agg #[.int .u64 a2.Dst, .int .u64 a2.Src, .bool a2.Tag.Has, .int .i64 a2.Tag.Pri, .bool a2.Tag.Dei, .int .i64 a2.Tag.Vid, .int .i64 a2.Type_, .string a2.Body])]) (fun _ => [(b1, .cells #[.int .u64 a2.Dst, .int .u64 a2.Src, .bool a2.Tag.Has, .int .i64 a2.Tag.Pri, .bool a2.Tag.Dei, .int .i64 a2.Tag.Vid, .int .i64 a2.Type_, .string a2.Body] 29 (0, 0)), ((b1 + 1), .cells #[.int .i64 0, .int .u32 0, .int .i64 0, .int .i64 0, .bool false, .string (⟨#[]⟩ : ByteArray)] 47 (0, 0))]) (fun _ => [b1, b1, b1, b1, b1, b1, b1, b1]) (fun _ => by kernel_rfl) (fun _ => ?_)
  obtain ⟨r2, h3, hM⟩ := bind_some hM
  refine WL.callP [] [] (station_framed_calls a0 a2 _ h3) (fun _ h => h) (by kernel_rfl) (by kernel_rfl) rfl ?_
  refine WL.run 1 [] [1, 5, 6, 7, 8] (fun _ => [(1, .int .u32 a1), (5, .pointer (some ⟨b1, 0, none⟩)), (6, .pointer (some ⟨(b1 + 1), 0, none⟩)), (7, .nilIface), (8, Un2.v r2)]) (fun _ => [(b1, .cells #[.int .u64 a2.Dst, .int .u64 a2.Src, .bool a2.Tag.Has, .int .i64 a2.Tag.Pri, .bool a2.Tag.Dei, .int .i64 a2.Tag.Vid, .int .i64 a2.Type_, .string a2.Body] 29 (0, 0)), ((b1 + 1), .cells #[.int .i64 0, .int .u32 0, .int .i64 0, .int .i64 0, .bool false, .string (⟨#[]⟩ : ByteArray)] 47 (0, 0))]) (fun _ => []) (fun _ => by kernel_rfl) (fun _ => ?_)
  refine WP.done ?_
  refine WP.seq ?_
  refine WP.region ?_
  refine WL.run 1 [] [1, 5, 6, 7, 8, 15] (fun _ => [(1, .int .u32 a1), (5, .pointer (some ⟨b1, 0, none⟩)), (6, .pointer (some ⟨(b1 + 1), 0, none⟩)), (7, .nilIface), (8, Un2.v r2), (15, Un2.v r2)]) (fun _ => [(b1, .cells #[.int .u64 a2.Dst, .int .u64 a2.Src, .bool a2.Tag.Has, .int .i64 a2.Tag.Pri, .bool a2.Tag.Dei, .int .i64 a2.Tag.Vid, .int .i64 a2.Type_, .string a2.Body] 29 (0, 0)), ((b1 + 1), .cells #[.int .i64 0, .int .u32 0, .int .i64 0, .int .i64 0, .bool false, .string (⟨#[]⟩ : ByteArray)] 47 (0, 0))]) (fun _ => []) (fun _ => by kernel_rfl) (fun _ => ?_)
  rcases r2 with _ | ⟨q4, q5⟩
  · dsimp only at hM
    refine WL.run 1 [] [1, 5, 6, 7, 8, 16] (fun _ => [(1, .int .u32 a1), (5, .pointer (some ⟨b1, 0, none⟩)), (6, .pointer (some ⟨(b1 + 1), 0, none⟩)), (7, .nilIface), (8, .nilIface), (16, .bool false)]) (fun _ => [(b1, .cells #[.int .u64 a2.Dst, .int .u64 a2.Src, .bool a2.Tag.Has, .int .i64 a2.Tag.Pri, .bool a2.Tag.Dei, .int .i64 a2.Tag.Vid, .int .i64 a2.Type_, .string a2.Body] 29 (0, 0)), ((b1 + 1), .cells #[.int .i64 0, .int .u32 0, .int .i64 0, .int .i64 0, .bool false, .string (⟨#[]⟩ : ByteArray)] 47 (0, 0))]) (fun _ => []) (fun _ => by kernel_rfl) (fun _ => ?_)
    refine WP.done ?_
    refine WP.no rfl rfl ?_
    refine WP.skip ?_
    refine WP.seq ?_
    refine WP.region ?_
    refine WL.run 3 [0] [6, 7, 20, 22] (fun _ => [(6, .pointer (some ⟨(b1 + 1), 0, none⟩)), (7, .nilIface), (20, .int .u32 a1), (22, .string a2.Body)]) (fun _ => [(b1, .cells #[.int .u64 a2.Dst, .int .u64 a2.Src, .bool a2.Tag.Has, .int .i64 a2.Tag.Pri, .bool a2.Tag.Dei, .int .i64 a2.Tag.Vid, .int .i64 a2.Type_, .string a2.Body] 29 (0, 0)), ((b1 + 1), .cells #[.int .i64 0, .int .u32 0, .int .i64 0, .int .i64 0, .bool false, .string (⟨#[]⟩ : ByteArray)] 47 (0, 0))]) (fun _ => [b1]) (fun _ => by kernel_rfl) (fun _ => ?_)
    obtain ⟨⟨r6, r7⟩, h8, hM⟩ := bind_some hM
    dsimp only at hM
    refine WL.callP [] [] (station_packet_calls k a1 a2.Body _ h8) (fun _ h => h) (by kernel_rfl) (by kernel_rfl) rfl ?_
    refine WL.run 6 [2, 2, 2, 2, 2, 2, 2, 2, 2, 2] [6, 7, 9, 10] (fun b9 => [(6, .pointer (some ⟨(b1 + 1), 0, none⟩)), (7, .nilIface), (9, .pointer (some ⟨b9, 0, none⟩)), (10, Un2.v r7)]) (fun b9 => [(b1, .cells #[.int .u64 a2.Dst, .int .u64 a2.Src, .bool a2.Tag.Has, .int .i64 a2.Tag.Pri, .bool a2.Tag.Dei, .int .i64 a2.Tag.Vid, .int .i64 a2.Type_, .string a2.Body] 29 (0, 0)), ((b1 + 1), .cells #[.int .i64 0, .int .u32 0, .int .i64 0, .int .i64 0, .bool false, .string (⟨#[]⟩ : ByteArray)] 47 (0, 0)), (b9, .cells #[.int .i64 r6.Tos, .int .i64 r6.Id, .bool r6.Whole, .bool r6.More, .int .i64 r6.Off, .int .i64 r6.Ttl, .int .i64 r6.Proto, .int .u32 r6.Src, .int .u32 r6.Dst, .string r6.Body] 91 (0, 0))]) (fun b9 => [b9, b9, b9, b9, b9, b9, b9, b9, b9, b9]) (fun b9 => by kernel_rfl) (fun b9 => ?_)
    refine WP.done ?_
    refine WP.keep [false, true, true] (by kernel_rfl : _ = [((b1 + 1), .cells #[.int .i64 0, .int .u32 0, .int .i64 0, .int .i64 0, .bool false, .string (⟨#[]⟩ : ByteArray)] 47 (0, 0)), (b9, .cells #[.int .i64 r6.Tos, .int .i64 r6.Id, .bool r6.Whole, .bool r6.More, .int .i64 r6.Off, .int .i64 r6.Ttl, .int .i64 r6.Proto, .int .u32 r6.Src, .int .u32 r6.Dst, .string r6.Body] 91 (0, 0))]) ?_
    refine WP.seq ?_
    refine WP.seq ?_
    refine WP.region ?_
    refine WL.run 1 [] [6, 7, 9, 10, 26] (fun _ => [(6, .pointer (some ⟨(b1 + 1), 0, none⟩)), (7, .nilIface), (9, .pointer (some ⟨b9, 0, none⟩)), (10, Un2.v r7), (26, Un2.v r7)]) (fun _ => [((b1 + 1), .cells #[.int .i64 0, .int .u32 0, .int .i64 0, .int .i64 0, .bool false, .string (⟨#[]⟩ : ByteArray)] 47 (0, 0)), (b9, .cells #[.int .i64 r6.Tos, .int .i64 r6.Id, .bool r6.Whole, .bool r6.More, .int .i64 r6.Off, .int .i64 r6.Ttl, .int .i64 r6.Proto, .int .u32 r6.Src, .int .u32 r6.Dst, .string r6.Body] 91 (0, 0))]) (fun _ => []) (fun _ => by kernel_rfl) (fun _ => ?_)
    rcases r7 with _ | ⟨q10, q11⟩
    · dsimp only at hM
      refine WL.run 1 [] [6, 7, 9, 10, 27] (fun _ => [(6, .pointer (some ⟨(b1 + 1), 0, none⟩)), (7, .nilIface), (9, .pointer (some ⟨b9, 0, none⟩)), (10, .nilIface), (27, .bool false)]) (fun _ => [((b1 + 1), .cells #[.int .i64 0, .int .u32 0, .int .i64 0, .int .i64 0, .bool false, .string (⟨#[]⟩ : ByteArray)] 47 (0, 0)), (b9, .cells #[.int .i64 r6.Tos, .int .i64 r6.Id, .bool r6.Whole, .bool r6.More, .int .i64 r6.Off, .int .i64 r6.Ttl, .int .i64 r6.Proto, .int .u32 r6.Src, .int .u32 r6.Dst, .string r6.Body] 91 (0, 0))]) (fun _ => []) (fun _ => by kernel_rfl) (fun _ => ?_)
      refine WP.done ?_
      refine WP.no rfl rfl ?_
      refine WP.skip ?_
      refine WP.seq ?_
      refine WP.region ?_
      refine WL.run 1 [1, 1, 1, 1, 1, 1, 1, 1, 1, 1] [6, 7, 9, 10, 31] (fun _ => [(6, .pointer (some ⟨(b1 + 1), 0, none⟩)), (7, .nilIface), (9, .pointer (some ⟨b9, 0, none⟩)), (10, .nilIface), (31, .agg #[.int .i64 r6.Tos, .int .i64 r6.Id, .bool r6.Whole, .bool r6.More, .int .i64 r6.Off, .int .i64 r6.Ttl, .int .i64 r6.Proto, .int .u32 r6.Src, .int .u32 r6.Dst, .string r6.Body])]) (fun _ => [((b1 + 1), .cells #[.int .i64 0, .int .u32 0, .int .i64 0, .int .i64 0, .bool false, .string (⟨#[]⟩ : ByteArray)] 47 (0, 0)), (b9, .cells #[.int .i64 r6.Tos, .int .i64 r6.Id, .bool r6.Whole, .bool r6.More, .int .i64 r6.Off, .int .i64 r6.Ttl, .int .i64 r6.Proto, .int .u32 r6.Src, .int .u32 r6.Dst, .string r6.Body] 91 (0, 0))]) (fun _ => [b9, b9, b9, b9, b9, b9, b9, b9, b9, b9]) (fun _ => by kernel_rfl) (fun _ => ?_)
      obtain ⟨⟨r12, r13⟩, h14, hM⟩ := bind_some hM
      dsimp only at hM
      refine WL.callP [] [] (station_datagram_calls k r6 _ h14) (fun _ h => h) (by kernel_rfl) (by kernel_rfl) rfl ?_
      refine WL.run 6 [2, 2, 2, 2] [6, 7, 9, 10, 11] (fun b15 => [(6, .pointer (some ⟨(b1 + 1), 0, none⟩)), (7, .nilIface), (9, .pointer (some ⟨b9, 0, none⟩)), (10, Un2.v r13), (11, .pointer (some ⟨b15, 0, none⟩))]) (fun b15 => [((b1 + 1), .cells #[.int .i64 0, .int .u32 0, .int .i64 0, .int .i64 0, .bool false, .string (⟨#[]⟩ : ByteArray)] 47 (0, 0)), (b9, .cells #[.int .i64 r6.Tos, .int .i64 r6.Id, .bool r6.Whole, .bool r6.More, .int .i64 r6.Off, .int .i64 r6.Ttl, .int .i64 r6.Proto, .int .u32 r6.Src, .int .u32 r6.Dst, .string r6.Body] 91 (0, 0)), (b15, .cells #[.int .i64 r12.Src, .int .i64 r12.Dst, .bool r12.NoSum, .string r12.Body] 40 (0, 0))]) (fun b15 => [b15, b15, b15, b15]) (fun b15 => by kernel_rfl) (fun b15 => ?_)
      refine WP.done ?_
      refine WP.seq ?_
      refine WP.seq ?_
      refine WP.region ?_
      refine WL.run 1 [] [6, 7, 9, 10, 11, 35] (fun _ => [(6, .pointer (some ⟨(b1 + 1), 0, none⟩)), (7, .nilIface), (9, .pointer (some ⟨b9, 0, none⟩)), (10, Un2.v r13), (11, .pointer (some ⟨b15, 0, none⟩)), (35, Un2.v r13)]) (fun _ => [((b1 + 1), .cells #[.int .i64 0, .int .u32 0, .int .i64 0, .int .i64 0, .bool false, .string (⟨#[]⟩ : ByteArray)] 47 (0, 0)), (b9, .cells #[.int .i64 r6.Tos, .int .i64 r6.Id, .bool r6.Whole, .bool r6.More, .int .i64 r6.Off, .int .i64 r6.Ttl, .int .i64 r6.Proto, .int .u32 r6.Src, .int .u32 r6.Dst, .string r6.Body] 91 (0, 0)), (b15, .cells #[.int .i64 r12.Src, .int .i64 r12.Dst, .bool r12.NoSum, .string r12.Body] 40 (0, 0))]) (fun _ => []) (fun _ => by kernel_rfl) (fun _ => ?_)
      rcases r13 with _ | ⟨q16, q17⟩
      · dsimp only at hM
        refine WL.run 1 [] [6, 7, 9, 10, 11, 36] (fun _ => [(6, .pointer (some ⟨(b1 + 1), 0, none⟩)), (7, .nilIface), (9, .pointer (some ⟨b9, 0, none⟩)), (10, .nilIface), (11, .pointer (some ⟨b15, 0, none⟩)), (36, .bool false)]) (fun _ => [((b1 + 1), .cells #[.int .i64 0, .int .u32 0, .int .i64 0, .int .i64 0, .bool false, .string (⟨#[]⟩ : ByteArray)] 47 (0, 0)), (b9, .cells #[.int .i64 r6.Tos, .int .i64 r6.Id, .bool r6.Whole, .bool r6.More, .int .i64 r6.Off, .int .i64 r6.Ttl, .int .i64 r6.Proto, .int .u32 r6.Src, .int .u32 r6.Dst, .string r6.Body] 91 (0, 0)), (b15, .cells #[.int .i64 r12.Src, .int .i64 r12.Dst, .bool r12.NoSum, .string r12.Body] 40 (0, 0))]) (fun _ => []) (fun _ => by kernel_rfl) (fun _ => ?_)
        refine WP.done ?_
        refine WP.no rfl rfl ?_
        refine WP.skip ?_
        refine WP.seq ?_
        refine WP.run [1, 2, 2, 2, 2, 0, 0, 0, 0, 0, 0] [6, 7] (fun _ => [(6, .pointer (some ⟨(b1 + 1), 0, none⟩)), (7, .nilIface)]) (fun _ => [((b1 + 1), .cells #[.int .i64 0, .int .u32 r6.Src, .int .i64 r12.Src, .int .i64 r12.Dst, .bool r12.NoSum, .string r12.Body] 47 (0, 0)), (b9, .cells #[.int .i64 r6.Tos, .int .i64 r6.Id, .bool r6.Whole, .bool r6.More, .int .i64 r6.Off, .int .i64 r6.Ttl, .int .i64 r6.Proto, .int .u32 r6.Src, .int .u32 r6.Dst, .string r6.Body] 91 (0, 0)), (b15, .cells #[.int .i64 r12.Src, .int .i64 r12.Dst, .bool r12.NoSum, .string r12.Body] 40 (0, 0))]) (fun _ => [(b1 + 1), (b1 + 1), (b1 + 1), (b1 + 1), (b1 + 1), (b1 + 1), b15, b15, b15, b15, b9]) (fun _ => by kernel_rfl) (fun _ => ?_)
        refine WP.keep [true, false, false] (by kernel_rfl : _ = [((b1 + 1), .cells #[.int .i64 0, .int .u32 r6.Src, .int .i64 r12.Src, .int .i64 r12.Dst, .bool r12.NoSum, .string r12.Body] 47 (0, 0))]) ?_
        obtain rfl := Option.some.inj hM
        exact WP.ret [0, 0, 0, 0, 0, 0] [(b1 + 1), (b1 + 1), (b1 + 1), (b1 + 1), (b1 + 1), (b1 + 1)] (.tuple #[.agg #[.int .i64 0, .int .u32 r6.Src, .int .i64 r12.Src, .int .i64 r12.Dst, .bool r12.NoSum, .string r12.Body], .nilIface]) (by kernel_rfl) (fun w' hw => ⟨rfl, hw.pick [] rfl⟩)
      · dsimp only at hM
        refine WL.run 1 [] [6, 7, 9, 10, 11, 36] (fun _ => [(6, .pointer (some ⟨(b1 + 1), 0, none⟩)), (7, .nilIface), (9, .pointer (some ⟨b9, 0, none⟩)), (10, .iface 138 (.agg #[.string q16, .iface 80 (.agg #[.int .i64 q17.n])])), (11, .pointer (some ⟨b15, 0, none⟩)), (36, .bool true)]) (fun _ => [((b1 + 1), .cells #[.int .i64 0, .int .u32 0, .int .i64 0, .int .i64 0, .bool false, .string (⟨#[]⟩ : ByteArray)] 47 (0, 0)), (b9, .cells #[.int .i64 r6.Tos, .int .i64 r6.Id, .bool r6.Whole, .bool r6.More, .int .i64 r6.Off, .int .i64 r6.Ttl, .int .i64 r6.Proto, .int .u32 r6.Src, .int .u32 r6.Dst, .string r6.Body] 91 (0, 0)), (b15, .cells #[.int .i64 r12.Src, .int .i64 r12.Dst, .bool r12.NoSum, .string r12.Body] 40 (0, 0))]) (fun _ => []) (fun _ => by kernel_rfl) (fun _ => ?_)
        refine WP.done ?_
        refine WP.yes rfl rfl ?_
        refine WP.seq ?_
        refine WP.run [0, 0, 0, 0, 0, 0] [6, 7, 9, 11] (fun _ => [(6, .pointer (some ⟨(b1 + 1), 0, none⟩)), (7, .iface 138 (.agg #[.string q16, .iface 80 (.agg #[.int .i64 q17.n])])), (9, .pointer (some ⟨b9, 0, none⟩)), (11, .pointer (some ⟨b15, 0, none⟩))]) (fun _ => [((b1 + 1), .cells #[.int .i64 0, .int .u32 0, .int .i64 0, .int .i64 0, .bool false, .string (⟨#[]⟩ : ByteArray)] 47 (0, 0)), (b9, .cells #[.int .i64 r6.Tos, .int .i64 r6.Id, .bool r6.Whole, .bool r6.More, .int .i64 r6.Off, .int .i64 r6.Ttl, .int .i64 r6.Proto, .int .u32 r6.Src, .int .u32 r6.Dst, .string r6.Body] 91 (0, 0)), (b15, .cells #[.int .i64 r12.Src, .int .i64 r12.Dst, .bool r12.NoSum, .string r12.Body] 40 (0, 0))]) (fun _ => [(b1 + 1), (b1 + 1), (b1 + 1), (b1 + 1), (b1 + 1), (b1 + 1)]) (fun _ => by kernel_rfl) (fun _ => ?_)
        obtain rfl := Option.some.inj hM
        exact WP.ret [0, 0, 0, 0, 0, 0] [(b1 + 1), (b1 + 1), (b1 + 1), (b1 + 1), (b1 + 1), (b1 + 1)] (.tuple #[.agg #[.int .i64 0, .int .u32 0, .int .i64 0, .int .i64 0, .bool false, .string (⟨#[]⟩ : ByteArray)], .iface 138 (.agg #[.string q16, .iface 80 (.agg #[.int .i64 q17.n])])]) (by kernel_rfl) (fun w' hw => ⟨rfl, hw.pick [] rfl⟩)
    · dsimp only at hM
      refine WL.run 1 [] [6, 7, 9, 10, 27] (fun _ => [(6, .pointer (some ⟨(b1 + 1), 0, none⟩)), (7, .nilIface), (9, .pointer (some ⟨b9, 0, none⟩)), (10, .iface 138 (.agg #[.string q10, .iface 80 (.agg #[.int .i64 q11.n])])), (27, .bool true)]) (fun _ => [((b1 + 1), .cells #[.int .i64 0, .int .u32 0, .int .i64 0, .int .i64 0, .bool false, .string (⟨#[]⟩ : ByteArray)] 47 (0, 0)), (b9, .cells #[.int .i64 r6.Tos, .int .i64 r6.Id, .bool r6.Whole, .bool r6.More, .int .i64 r6.Off, .int .i64 r6.Ttl, .int .i64 r6.Proto, .int .u32 r6.Src, .int .u32 r6.Dst, .string r6.Body] 91 (0, 0))]) (fun _ => []) (fun _ => by kernel_rfl) (fun _ => ?_)
      refine WP.done ?_
      refine WP.yes rfl rfl ?_
      refine WP.seq ?_
      refine WP.run [0, 0, 0, 0, 0, 0] [6, 7, 9, 10] (fun _ => [(6, .pointer (some ⟨(b1 + 1), 0, none⟩)), (7, .iface 138 (.agg #[.string q10, .iface 80 (.agg #[.int .i64 q11.n])])), (9, .pointer (some ⟨b9, 0, none⟩)), (10, .iface 138 (.agg #[.string q10, .iface 80 (.agg #[.int .i64 q11.n])]))]) (fun _ => [((b1 + 1), .cells #[.int .i64 0, .int .u32 0, .int .i64 0, .int .i64 0, .bool false, .string (⟨#[]⟩ : ByteArray)] 47 (0, 0)), (b9, .cells #[.int .i64 r6.Tos, .int .i64 r6.Id, .bool r6.Whole, .bool r6.More, .int .i64 r6.Off, .int .i64 r6.Ttl, .int .i64 r6.Proto, .int .u32 r6.Src, .int .u32 r6.Dst, .string r6.Body] 91 (0, 0))]) (fun _ => [(b1 + 1), (b1 + 1), (b1 + 1), (b1 + 1), (b1 + 1), (b1 + 1)]) (fun _ => by kernel_rfl) (fun _ => ?_)
      obtain rfl := Option.some.inj hM
      exact WP.ret [0, 0, 0, 0, 0, 0] [(b1 + 1), (b1 + 1), (b1 + 1), (b1 + 1), (b1 + 1), (b1 + 1)] (.tuple #[.agg #[.int .i64 0, .int .u32 0, .int .i64 0, .int .i64 0, .bool false, .string (⟨#[]⟩ : ByteArray)], .iface 138 (.agg #[.string q10, .iface 80 (.agg #[.int .i64 q11.n])])]) (by kernel_rfl) (fun w' hw => ⟨rfl, hw.pick [] rfl⟩)
  · dsimp only at hM
    refine WL.run 1 [] [1, 5, 6, 7, 8, 16] (fun _ => [(1, .int .u32 a1), (5, .pointer (some ⟨b1, 0, none⟩)), (6, .pointer (some ⟨(b1 + 1), 0, none⟩)), (7, .nilIface), (8, .iface 138 (.agg #[.string q4, .iface 80 (.agg #[.int .i64 q5.n])])), (16, .bool true)]) (fun _ => [(b1, .cells #[.int .u64 a2.Dst, .int .u64 a2.Src, .bool a2.Tag.Has, .int .i64 a2.Tag.Pri, .bool a2.Tag.Dei, .int .i64 a2.Tag.Vid, .int .i64 a2.Type_, .string a2.Body] 29 (0, 0)), ((b1 + 1), .cells #[.int .i64 0, .int .u32 0, .int .i64 0, .int .i64 0, .bool false, .string (⟨#[]⟩ : ByteArray)] 47 (0, 0))]) (fun _ => []) (fun _ => by kernel_rfl) (fun _ => ?_)
    refine WP.done ?_
    refine WP.yes rfl rfl ?_
    refine WP.seq ?_
    refine WP.run [1, 1, 1, 1, 1, 1] [1, 5, 6, 7] (fun _ => [(1, .int .u32 a1), (5, .pointer (some ⟨b1, 0, none⟩)), (6, .pointer (some ⟨(b1 + 1), 0, none⟩)), (7, .iface 138 (.agg #[.string q4, .iface 80 (.agg #[.int .i64 q5.n])]))]) (fun _ => [(b1, .cells #[.int .u64 a2.Dst, .int .u64 a2.Src, .bool a2.Tag.Has, .int .i64 a2.Tag.Pri, .bool a2.Tag.Dei, .int .i64 a2.Tag.Vid, .int .i64 a2.Type_, .string a2.Body] 29 (0, 0)), ((b1 + 1), .cells #[.int .i64 0, .int .u32 0, .int .i64 0, .int .i64 0, .bool false, .string (⟨#[]⟩ : ByteArray)] 47 (0, 0))]) (fun _ => [(b1 + 1), (b1 + 1), (b1 + 1), (b1 + 1), (b1 + 1), (b1 + 1)]) (fun _ => by kernel_rfl) (fun _ => ?_)
    obtain rfl := Option.some.inj hM
    exact WP.ret [1, 1, 1, 1, 1, 1] [(b1 + 1), (b1 + 1), (b1 + 1), (b1 + 1), (b1 + 1), (b1 + 1)] (.tuple #[.agg #[.int .i64 0, .int .u32 0, .int .i64 0, .int .i64 0, .bool false, .string (⟨#[]⟩ : ByteArray)], .iface 138 (.agg #[.string q4, .iface 80 (.agg #[.int .i64 q5.n])])]) (by kernel_rfl) (fun w' hw => ⟨rfl, hw.pick [] rfl⟩)

end Go.Proofs.YtbodofjnfmjbpaaGreatDoor

namespace Go.Proofs.YtbodofjnfmjbpaaGreatDoor
open Go Eng
set_option linter.unusedVariables false
set_option linter.unusedSimpArgs false

/-! ### errors.As: function 34 -/
def errors_As_3.f (a1 : station_why) : Option (Bool) :=
  some false

set_option maxRecDepth 100000 in
theorem errors_As_3_calls (b_0 : Nat) (a1 : station_why) (r : Bool) (h : errors_As_3.f a1 = some r) : Does Tryz.prog 34 #[.nilIface, .iface 82 (.pointer (some ⟨b_0, 0, none⟩))] [(b_0, .cells #[.int .i64 a1.n] 80 (0, 0))] Glob (fun _ : Unit => .bool r) (fun _ => [(b_0, .cells #[.int .i64 a1.n] 80 (0, 0))]) (fun _ => []) (fun _ => Glob) := by
  intro w Z hS
  refine calls_of (args := [.nilIface, .iface 82 (.pointer (some ⟨b_0, 0, none⟩))]) (L := [(0, .nilIface), (1, .iface 82 (.pointer (some ⟨b_0, 0, none⟩)))]) (N := 42) (S := Sat w Z [(b_0, .cells #[.int .i64 a1.n] 80 (0, 0))] [] Glob) Tryz.func34 rfl rfl (Nat.le_of_ble_eq_true rfl) rfl hS ?_
  have hM := h
  clear h hS
  unfold errors_As_3.f at hM
  refine WP.seq ?_
  refine WP.run [] [0, 1, 4] (fun _ => [(0, .nilIface), (1, .iface 82 (.pointer (some ⟨b_0, 0, none⟩))), (4, .bool false)]) (fun _ => [(b_0, .cells #[.int .i64 a1.n] 80 (0, 0))]) (fun _ => []) (fun _ => by kernel_rfl) (fun _ => ?_)
  refine WP.seq ?_
  refine WP.seq ?_
  refine WP.run [] [0, 1, 4, 9] (fun _ => [(0, .nilIface), (1, .iface 82 (.pointer (some ⟨b_0, 0, none⟩))), (4, .bool false), (9, .bool true)]) (fun _ => [(b_0, .cells #[.int .i64 a1.n] 80 (0, 0))]) (fun _ => []) (fun _ => by kernel_rfl) (fun _ => ?_)
  refine WP.yes rfl rfl ?_
  refine WP.seq ?_
  refine WP.run [] [0, 1, 4] (fun _ => [(0, .nilIface), (1, .iface 82 (.pointer (some ⟨b_0, 0, none⟩))), (4, .bool false)]) (fun _ => [(b_0, .cells #[.int .i64 a1.n] 80 (0, 0))]) (fun _ => []) (fun _ => by kernel_rfl) (fun _ => ?_)
  obtain rfl := Option.some.inj hM
  exact WP.ret [] [] (.bool false) (by kernel_rfl) (fun w' hw => ⟨(), rfl, hw.pick [0] (by kernel_rfl)⟩)

end Go.Proofs.YtbodofjnfmjbpaaGreatDoor

namespace Go.Proofs.YtbodofjnfmjbpaaGreatDoor
open Go Eng
set_option linter.unusedVariables false
set_option linter.unusedSimpArgs false

/-! ### (gangway/station.while).Unwrap: function 148 -/
def station_while_Unwrap.f (a0 : ByteArray) (a0_1 : station_why) : Option (station_why) :=
  some a0_1

set_option maxRecDepth 100000 in
theorem station_while_Unwrap_calls (a0 : ByteArray) (a0_1 : station_why) (r : station_why) (h : station_while_Unwrap.f a0 a0_1 = some r) : Pure Tryz.prog Glob 148 #[.agg #[.string a0, .iface 80 (.agg #[.int .i64 a0_1.n])]] (.iface 80 (.agg #[.int .i64 r.n])) := by
  intro w Z hS
  refine calls_of (args := [.agg #[.string a0, .iface 80 (.agg #[.int .i64 a0_1.n])]]) (L := [(0, .agg #[.string a0, .iface 80 (.agg #[.int .i64 a0_1.n])])]) (N := 5) (S := Sat w Z [] [] Glob) Tryz.func148 rfl rfl (Nat.le_of_ble_eq_true rfl) rfl hS ?_
  have hM := h
  clear h hS
  unfold station_while_Unwrap.f at hM
  refine WP.seq ?_
  refine WP.run [] [1, 2] (fun b1 => [(1, .pointer (some ⟨b1, 0, none⟩)), (2, .nilIface)]) (fun b1 => [(b1, .cells #[.string a0, .iface 80 (.agg #[.int .i64 a0_1.n])] 138 (0, 0))]) (fun b1 => []) (fun b1 => by kernel_rfl) (fun b1 => ?_)
  refine WP.seq ?_
  refine WP.run [0] [2] (fun _ => [(2, .iface 80 (.agg #[.int .i64 a0_1.n]))]) (fun _ => [(b1, .cells #[.string a0, .iface 80 (.agg #[.int .i64 a0_1.n])] 138 (0, 0))]) (fun _ => [b1]) (fun _ => by kernel_rfl) (fun _ => ?_)
  refine WP.keep [false] (by kernel_rfl : _ = []) ?_
  obtain rfl := Option.some.inj hM
  exact WP.ret [] [] (.iface 80 (.agg #[.int .i64 a0_1.n])) (by kernel_rfl) (fun w' hw => ⟨rfl, hw.pick [] rfl⟩)

end Go.Proofs.YtbodofjnfmjbpaaGreatDoor

namespace Go.Proofs.YtbodofjnfmjbpaaGreatDoor
open Go Eng
set_option linter.unusedVariables false
set_option linter.unusedSimpArgs false

/-! ### errors.as: function 62 -/
def errors_as_3.f (a0 : ByteArray) (a0_1 : station_why) (a1 : station_why) : Option (Bool × station_why) :=
  (station_while_Unwrap.f a0 a0_1).bind fun r3 =>
  some (true, r3)

set_option maxRecDepth 100000 in
theorem errors_as_3_calls (b_0 : Nat) (b_1 : Nat) (a0 : ByteArray) (a0_1 : station_why) (a1 : station_why) (r : Bool × station_why) (h : errors_as_3.f a0 a0_1 a1 = some r) : Does Tryz.prog 62 #[.iface 138 (.agg #[.string a0, .iface 80 (.agg #[.int .i64 a0_1.n])]), .iface 82 (.pointer (some ⟨b_0, 0, none⟩)), .agg #[.pointer (some ⟨2, 82, none⟩), .pointer (some ⟨b_1, 0, none⟩), .int .u64 150], .iface 148 (.agg #[.pointer (some ⟨2, 80, none⟩)])] [(b_0, .cells #[.int .i64 a1.n] 80 (0, 0)), (b_1, .cells #[.pointer (some ⟨b_0, 0, none⟩)] 82 (0, 0))] Glob (fun _ : Unit => .bool r.1) (fun _ => [(b_0, .cells #[.int .i64 r.2.n] 80 (0, 0)), (b_1, .cells #[.pointer (some ⟨b_0, 0, none⟩)] 82 (0, 0))]) (fun _ => []) (fun _ => Glob) := by
  intro w Z hS
  refine calls_of (args := [.iface 138 (.agg #[.string a0, .iface 80 (.agg #[.int .i64 a0_1.n])]), .iface 82 (.pointer (some ⟨b_0, 0, none⟩)), .agg #[.pointer (some ⟨2, 82, none⟩), .pointer (some ⟨b_1, 0, none⟩), .int .u64 150], .iface 148 (.agg #[.pointer (some ⟨2, 80, none⟩)])]) (L := [(0, .iface 138 (.agg #[.string a0, .iface 80 (.agg #[.int .i64 a0_1.n])])), (1, .iface 82 (.pointer (some ⟨b_0, 0, none⟩))), (2, .agg #[.pointer (some ⟨2, 82, none⟩), .pointer (some ⟨b_1, 0, none⟩), .int .u64 150]), (3, .iface 148 (.agg #[.pointer (some ⟨2, 80, none⟩)]))]) (N := 62) (S := Sat w Z [(b_0, .cells #[.int .i64 a1.n] 80 (0, 0)), (b_1, .cells #[.pointer (some ⟨b_0, 0, none⟩)] 82 (0, 0))] [] Glob) Tryz.func62 rfl rfl (Nat.le_of_ble_eq_true rfl) rfl hS ?_
  have hM := h
  clear h hS
  unfold errors_as_3.f at hM
  refine WP.seq ?_
  refine WP.run [] [0, 1, 3, 6, 8] (fun b1 => [(0, .iface 138 (.agg #[.string a0, .iface 80 (.agg #[.int .i64 a0_1.n])])), (1, .iface 82 (.pointer (some ⟨b_0, 0, none⟩))), (3, .iface 148 (.agg #[.pointer (some ⟨2, 80, none⟩)])), (6, .pointer (some ⟨b1, 0, none⟩)), (8, .bool false)]) (fun b1 => [(b_0, .cells #[.int .i64 a1.n] 80 (0, 0)), (b_1, .cells #[.pointer (some ⟨b_0, 0, none⟩)] 82 (0, 0)), (b1, .cells #[.pointer (some ⟨2, 82, none⟩), .pointer (some ⟨b_1, 0, none⟩), .int .u64 150] 106 (0, 0))]) (fun b1 => []) (fun b1 => by kernel_rfl) (fun b1 => ?_)
  refine WP.block ?_
  refine WP.unroll 40 ?_
  refine WP.block ?_
  refine WP.seq ?_
  refine WP.seq ?_
  refine WP.run [] [0, 1, 3, 6, 8, 16, 17, 18, 19] (fun _ => [(0, .iface 138 (.agg #[.string a0, .iface 80 (.agg #[.int .i64 a0_1.n])])), (1, .iface 82 (.pointer (some ⟨b_0, 0, none⟩))), (3, .iface 148 (.agg #[.pointer (some ⟨2, 80, none⟩)])), (6, .pointer (some ⟨b1, 0, none⟩)), (8, .bool false), (16, .iface 138 (.agg #[.string a0, .iface 80 (.agg #[.int .i64 a0_1.n])])), (17, .iface 148 (.agg #[.pointer (some ⟨2, 138, none⟩)])), (18, .iface 148 (.agg #[.pointer (some ⟨2, 80, none⟩)])), (19, .bool false)]) (fun _ => [(b_0, .cells #[.int .i64 a1.n] 80 (0, 0)), (b_1, .cells #[.pointer (some ⟨b_0, 0, none⟩)] 82 (0, 0)), (b1, .cells #[.pointer (some ⟨2, 82, none⟩), .pointer (some ⟨b_1, 0, none⟩), .int .u64 150] 106 (0, 0))]) (fun _ => []) (fun _ => by kernel_rfl) (fun _ => ?_)
  refine WP.no rfl rfl ?_
  refine WP.skip ?_
  refine WP.seq ?_
  refine WP.seq ?_
  refine WP.region ?_
  refine WL.run 1 [] [0, 1, 3, 6, 8, 16, 17, 18, 19, 26] (fun _ => [(0, .iface 138 (.agg #[.string a0, .iface 80 (.agg #[.int .i64 a0_1.n])])), (1, .iface 82 (.pointer (some ⟨b_0, 0, none⟩))), (3, .iface 148 (.agg #[.pointer (some ⟨2, 80, none⟩)])), (6, .pointer (some ⟨b1, 0, none⟩)), (8, .bool false), (16, .iface 138 (.agg #[.string a0, .iface 80 (.agg #[.int .i64 a0_1.n])])), (17, .iface 148 (.agg #[.pointer (some ⟨2, 138, none⟩)])), (18, .iface 148 (.agg #[.pointer (some ⟨2, 80, none⟩)])), (19, .bool false), (26, .iface 138 (.agg #[.string a0, .iface 80 (.agg #[.int .i64 a0_1.n])]))]) (fun _ => [(b_0, .cells #[.int .i64 a1.n] 80 (0, 0)), (b_1, .cells #[.pointer (some ⟨b_0, 0, none⟩)] 82 (0, 0)), (b1, .cells #[.pointer (some ⟨2, 82, none⟩), .pointer (some ⟨b_1, 0, none⟩), .int .u64 150] 106 (0, 0))]) (fun _ => []) (fun _ => by kernel_rfl) (fun _ => ?_)
  refine WL.val (fun _ => run_assertLacks (t := 138) (v := .agg #[.string a0, .iface 80 (.agg #[.int .i64 a0_1.n])]) (z := .nilIface) (by kernel_rfl) (by kernel_rfl) (by kernel_rfl)) (by kernel_rfl) (by kernel_rfl) rfl ?_
  refine WL.run 5 [] [0, 1, 3, 6, 8, 9, 10, 16, 17, 18, 19, 25, 26, 27, 28, 29] (fun _ => [(0, .iface 138 (.agg #[.string a0, .iface 80 (.agg #[.int .i64 a0_1.n])])), (1, .iface 82 (.pointer (some ⟨b_0, 0, none⟩))), (3, .iface 148 (.agg #[.pointer (some ⟨2, 80, none⟩)])), (6, .pointer (some ⟨b1, 0, none⟩)), (8, .bool false), (9, .nilIface), (10, .bool false), (16, .iface 138 (.agg #[.string a0, .iface 80 (.agg #[.int .i64 a0_1.n])])), (17, .iface 148 (.agg #[.pointer (some ⟨2, 138, none⟩)])), (18, .iface 148 (.agg #[.pointer (some ⟨2, 80, none⟩)])), (19, .bool false), (25, .tuple #[.nilIface, .bool false]), (26, .iface 138 (.agg #[.string a0, .iface 80 (.agg #[.int .i64 a0_1.n])])), (27, .tuple #[.nilIface, .bool false]), (28, .nilIface), (29, .bool false)]) (fun _ => [(b_0, .cells #[.int .i64 a1.n] 80 (0, 0)), (b_1, .cells #[.pointer (some ⟨b_0, 0, none⟩)] 82 (0, 0)), (b1, .cells #[.pointer (some ⟨2, 82, none⟩), .pointer (some ⟨b_1, 0, none⟩), .int .u64 150] 106 (0, 0))]) (fun _ => []) (fun _ => by kernel_rfl) (fun _ => ?_)
  refine WP.done ?_
  refine WP.seq ?_
  refine WP.run [] [0, 1, 3, 6, 8, 9, 10, 16, 17, 18, 19, 25, 26, 27, 28, 29, 30, 31, 32, 33, 34, 35] (fun _ => [(0, .iface 138 (.agg #[.string a0, .iface 80 (.agg #[.int .i64 a0_1.n])])), (1, .iface 82 (.pointer (some ⟨b_0, 0, none⟩))), (3, .iface 148 (.agg #[.pointer (some ⟨2, 80, none⟩)])), (6, .pointer (some ⟨b1, 0, none⟩)), (8, .bool false), (9, .nilIface), (10, .bool false), (16, .iface 138 (.agg #[.string a0, .iface 80 (.agg #[.int .i64 a0_1.n])])), (17, .iface 148 (.agg #[.pointer (some ⟨2, 138, none⟩)])), (18, .iface 148 (.agg #[.pointer (some ⟨2, 80, none⟩)])), (19, .bool false), (25, .tuple #[.nilIface, .bool false]), (26, .iface 138 (.agg #[.string a0, .iface 80 (.agg #[.int .i64 a0_1.n])])), (27, .tuple #[.nilIface, .bool false]), (28, .nilIface), (29, .bool false), (30, .bool false), (31, .bool false), (32, .tuple #[]), (33, .tuple #[]), (34, .tuple #[]), (35, .bool false)]) (fun _ => [(b_0, .cells #[.int .i64 a1.n] 80 (0, 0)), (b_1, .cells #[.pointer (some ⟨b_0, 0, none⟩)] 82 (0, 0)), (b1, .cells #[.pointer (some ⟨2, 82, none⟩), .pointer (some ⟨b_1, 0, none⟩), .int .u64 150] 106 (0, 0))]) (fun _ => []) (fun _ => by kernel_rfl) (fun _ => ?_)
  refine WP.no rfl rfl ?_
  refine WP.skip ?_
  refine WP.seq ?_
  refine WP.run [] [0, 1, 3, 6, 8, 9, 10, 16, 17, 18, 19, 25, 26, 27, 28, 29, 30, 31, 32, 33, 34, 35, 36] (fun _ => [(0, .iface 138 (.agg #[.string a0, .iface 80 (.agg #[.int .i64 a0_1.n])])), (1, .iface 82 (.pointer (some ⟨b_0, 0, none⟩))), (3, .iface 148 (.agg #[.pointer (some ⟨2, 80, none⟩)])), (6, .pointer (some ⟨b1, 0, none⟩)), (8, .bool false), (9, .nilIface), (10, .bool false), (16, .iface 138 (.agg #[.string a0, .iface 80 (.agg #[.int .i64 a0_1.n])])), (17, .iface 148 (.agg #[.pointer (some ⟨2, 138, none⟩)])), (18, .iface 148 (.agg #[.pointer (some ⟨2, 80, none⟩)])), (19, .bool false), (25, .tuple #[.nilIface, .bool false]), (26, .iface 138 (.agg #[.string a0, .iface 80 (.agg #[.int .i64 a0_1.n])])), (27, .tuple #[.nilIface, .bool false]), (28, .nilIface), (29, .bool false), (30, .bool false), (31, .bool false), (32, .tuple #[]), (33, .tuple #[]), (34, .tuple #[]), (35, .bool false), (36, .iface 138 (.agg #[.string a0, .iface 80 (.agg #[.int .i64 a0_1.n])]))]) (fun _ => [(b_0, .cells #[.int .i64 a1.n] 80 (0, 0)), (b_1, .cells #[.pointer (some ⟨b_0, 0, none⟩)] 82 (0, 0)), (b1, .cells #[.pointer (some ⟨2, 82, none⟩), .pointer (some ⟨b_1, 0, none⟩), .int .u64 150] 106 (0, 0))]) (fun _ => []) (fun _ => by kernel_rfl) (fun _ => ?_)
  refine WP.block ?_
  refine WP.seq ?_
  refine WP.region ?_
  refine WL.val (fun _ => run_assertHas (t := 138) (v := .agg #[.string a0, .iface 80 (.agg #[.int .i64 a0_1.n])]) (by kernel_rfl) (by kernel_rfl)) (by kernel_rfl) (by kernel_rfl) rfl ?_
  refine WL.run 2 [] [0, 1, 3, 6, 8, 9, 10, 16, 17, 18, 19, 25, 26, 27, 28, 29, 30, 31, 32, 33, 34, 35, 36, 37, 38, 39] (fun _ => [(0, .iface 138 (.agg #[.string a0, .iface 80 (.agg #[.int .i64 a0_1.n])])), (1, .iface 82 (.pointer (some ⟨b_0, 0, none⟩))), (3, .iface 148 (.agg #[.pointer (some ⟨2, 80, none⟩)])), (6, .pointer (some ⟨b1, 0, none⟩)), (8, .bool false), (9, .nilIface), (10, .bool false), (16, .iface 138 (.agg #[.string a0, .iface 80 (.agg #[.int .i64 a0_1.n])])), (17, .iface 148 (.agg #[.pointer (some ⟨2, 138, none⟩)])), (18, .iface 148 (.agg #[.pointer (some ⟨2, 80, none⟩)])), (19, .bool false), (25, .tuple #[.nilIface, .bool false]), (26, .iface 138 (.agg #[.string a0, .iface 80 (.agg #[.int .i64 a0_1.n])])), (27, .tuple #[.nilIface, .bool false]), (28, .nilIface), (29, .bool false), (30, .bool false), (31, .bool false), (32, .tuple #[]), (33, .tuple #[]), (34, .tuple #[]), (35, .bool false), (36, .iface 138 (.agg #[.string a0, .iface 80 (.agg #[.int .i64 a0_1.n])])), (37, .tuple #[.iface 138 (.agg #[.string a0, .iface 80 (.agg #[.int .i64 a0_1.n])]), .bool true]), (38, .bool true), (39, .iface 138 (.agg #[.string a0, .iface 80 (.agg #[.int .i64 a0_1.n])]))]) (fun _ => [(b_0, .cells #[.int .i64 a1.n] 80 (0, 0)), (b_1, .cells #[.pointer (some ⟨b_0, 0, none⟩)] 82 (0, 0)), (b1, .cells #[.pointer (some ⟨2, 82, none⟩), .pointer (some ⟨b_1, 0, none⟩), .int .u64 150] 106 (0, 0))]) (fun _ => []) (fun _ => by kernel_rfl) (fun _ => ?_)
  refine WP.done ?_
  refine WP.yes rfl rfl ?_
  refine WP.seq ?_
  refine WP.run [] [0, 1, 3, 6, 8, 9, 10, 11, 16, 17, 18, 19, 25, 26, 27, 28, 29, 30, 31, 32, 33, 34, 35, 36, 37, 38, 39] (fun _ => [(0, .iface 138 (.agg #[.string a0, .iface 80 (.agg #[.int .i64 a0_1.n])])), (1, .iface 82 (.pointer (some ⟨b_0, 0, none⟩))), (3, .iface 148 (.agg #[.pointer (some ⟨2, 80, none⟩)])), (6, .pointer (some ⟨b1, 0, none⟩)), (8, .bool false), (9, .nilIface), (10, .bool false), (11, .iface 138 (.agg #[.string a0, .iface 80 (.agg #[.int .i64 a0_1.n])])), (16, .iface 138 (.agg #[.string a0, .iface 80 (.agg #[.int .i64 a0_1.n])])), (17, .iface 148 (.agg #[.pointer (some ⟨2, 138, none⟩)])), (18, .iface 148 (.agg #[.pointer (some ⟨2, 80, none⟩)])), (19, .bool false), (25, .tuple #[.nilIface, .bool false]), (26, .iface 138 (.agg #[.string a0, .iface 80 (.agg #[.int .i64 a0_1.n])])), (27, .tuple #[.nilIface, .bool false]), (28, .nilIface), (29, .bool false), (30, .bool false), (31, .bool false), (32, .tuple #[]), (33, .tuple #[]), (34, .tuple #[]), (35, .bool false), (36, .iface 138 (.agg #[.string a0, .iface 80 (.agg #[.int .i64 a0_1.n])])), (37, .tuple #[.iface 138 (.agg #[.string a0, .iface 80 (.agg #[.int .i64 a0_1.n])]), .bool true]), (38, .bool true), (39, .iface 138 (.agg #[.string a0, .iface 80 (.agg #[.int .i64 a0_1.n])]))]) (fun _ => [(b_0, .cells #[.int .i64 a1.n] 80 (0, 0)), (b_1, .cells #[.pointer (some ⟨b_0, 0, none⟩)] 82 (0, 0)), (b1, .cells #[.pointer (some ⟨2, 82, none⟩), .pointer (some ⟨b_1, 0, none⟩), .int .u64 150] 106 (0, 0))]) (fun _ => []) (fun _ => by kernel_rfl) (fun _ => ?_)
  refine WP.seq ?_
  refine WP.region ?_
  refine WL.run 1 [] [0, 1, 3, 6, 8, 9, 10, 11, 16, 17, 18, 19, 25, 26, 27, 28, 29, 30, 31, 32, 33, 34, 35, 36, 37, 38, 39, 40] (fun _ => [(0, .iface 138 (.agg #[.string a0, .iface 80 (.agg #[.int .i64 a0_1.n])])), (1, .iface 82 (.pointer (some ⟨b_0, 0, none⟩))), (3, .iface 148 (.agg #[.pointer (some ⟨2, 80, none⟩)])), (6, .pointer (some ⟨b1, 0, none⟩)), (8, .bool false), (9, .nilIface), (10, .bool false), (11, .iface 138 (.agg #[.string a0, .iface 80 (.agg #[.int .i64 a0_1.n])])), (16, .iface 138 (.agg #[.string a0, .iface 80 (.agg #[.int .i64 a0_1.n])])), (17, .iface 148 (.agg #[.pointer (some ⟨2, 138, none⟩)])), (18, .iface 148 (.agg #[.pointer (some ⟨2, 80, none⟩)])), (19, .bool false), (25, .tuple #[.nilIface, .bool false]), (26, .iface 138 (.agg #[.string a0, .iface 80 (.agg #[.int .i64 a0_1.n])])), (27, .tuple #[.nilIface, .bool false]), (28, .nilIface), (29, .bool false), (30, .bool false), (31, .bool false), (32, .tuple #[]), (33, .tuple #[]), (34, .tuple #[]), (35, .bool false), (36, .iface 138 (.agg #[.string a0, .iface 80 (.agg #[.int .i64 a0_1.n])])), (37, .tuple #[.iface 138 (.agg #[.string a0, .iface 80 (.agg #[.int .i64 a0_1.n])]), .bool true]), (38, .bool true), (39, .iface 138 (.agg #[.string a0, .iface 80 (.agg #[.int .i64 a0_1.n])])), (40, .iface 138 (.agg #[.string a0, .iface 80 (.agg #[.int .i64 a0_1.n])]))]) (fun _ => [(b_0, .cells #[.int .i64 a1.n] 80 (0, 0)), (b_1, .cells #[.pointer (some ⟨b_0, 0, none⟩)] 82 (0, 0)), (b1, .cells #[.pointer (some ⟨2, 82, none⟩), .pointer (some ⟨b_1, 0, none⟩), .int .u64 150] 106 (0, 0))]) (fun _ => []) (fun _ => by kernel_rfl) (fun _ => ?_)
  obtain ⟨r3, h4, hM⟩ := bind_some hM
  refine WL.callP [] [] (station_while_Unwrap_calls a0 a0_1 _ h4) (fun _ h => h) (by kernel_rfl) (by kernel_rfl) rfl ?_
  refine WL.run 1 [] [0, 1, 3, 6, 8, 9, 10, 11, 16, 17, 18, 19, 25, 26, 27, 28, 29, 30, 31, 32, 33, 34, 35, 36, 37, 38, 39, 40, 41] (fun _ => [(0, .iface 80 (.agg #[.int .i64 r3.n])), (1, .iface 82 (.pointer (some ⟨b_0, 0, none⟩))), (3, .iface 148 (.agg #[.pointer (some ⟨2, 80, none⟩)])), (6, .pointer (some ⟨b1, 0, none⟩)), (8, .bool false), (9, .nilIface), (10, .bool false), (11, .iface 138 (.agg #[.string a0, .iface 80 (.agg #[.int .i64 a0_1.n])])), (16, .iface 138 (.agg #[.string a0, .iface 80 (.agg #[.int .i64 a0_1.n])])), (17, .iface 148 (.agg #[.pointer (some ⟨2, 138, none⟩)])), (18, .iface 148 (.agg #[.pointer (some ⟨2, 80, none⟩)])), (19, .bool false), (25, .tuple #[.nilIface, .bool false]), (26, .iface 138 (.agg #[.string a0, .iface 80 (.agg #[.int .i64 a0_1.n])])), (27, .tuple #[.nilIface, .bool false]), (28, .nilIface), (29, .bool false), (30, .bool false), (31, .bool false), (32, .tuple #[]), (33, .tuple #[]), (34, .tuple #[]), (35, .bool false), (36, .iface 138 (.agg #[.string a0, .iface 80 (.agg #[.int .i64 a0_1.n])])), (37, .tuple #[.iface 138 (.agg #[.string a0, .iface 80 (.agg #[.int .i64 a0_1.n])]), .bool true]), (38, .bool true), (39, .iface 138 (.agg #[.string a0, .iface 80 (.agg #[.int .i64 a0_1.n])])), (40, .iface 138 (.agg #[.string a0, .iface 80 (.agg #[.int .i64 a0_1.n])])), (41, .iface 80 (.agg #[.int .i64 r3.n]))]) (fun _ => [(b_0, .cells #[.int .i64 a1.n] 80 (0, 0)), (b_1, .cells #[.pointer (some ⟨b_0, 0, none⟩)] 82 (0, 0)), (b1, .cells #[.pointer (some ⟨2, 82, none⟩), .pointer (some ⟨b_1, 0, none⟩), .int .u64 150] 106 (0, 0))]) (fun _ => []) (fun _ => by kernel_rfl) (fun _ => ?_)
  refine WP.done ?_
  refine WP.seq ?_
  refine WP.run [] [0, 1, 3, 6, 8, 9, 10, 11, 16, 17, 18, 19, 25, 26, 27, 28, 29, 30, 31, 32, 33, 34, 35, 36, 37, 38, 39, 40, 41, 42, 43] (fun _ => [(0, .iface 80 (.agg #[.int .i64 r3.n])), (1, .iface 82 (.pointer (some ⟨b_0, 0, none⟩))), (3, .iface 148 (.agg #[.pointer (some ⟨2, 80, none⟩)])), (6, .pointer (some ⟨b1, 0, none⟩)), (8, .bool false), (9, .nilIface), (10, .bool false), (11, .iface 138 (.agg #[.string a0, .iface 80 (.agg #[.int .i64 a0_1.n])])), (16, .iface 138 (.agg #[.string a0, .iface 80 (.agg #[.int .i64 a0_1.n])])), (17, .iface 148 (.agg #[.pointer (some ⟨2, 138, none⟩)])), (18, .iface 148 (.agg #[.pointer (some ⟨2, 80, none⟩)])), (19, .bool false), (25, .tuple #[.nilIface, .bool false]), (26, .iface 138 (.agg #[.string a0, .iface 80 (.agg #[.int .i64 a0_1.n])])), (27, .tuple #[.nilIface, .bool false]), (28, .nilIface), (29, .bool false), (30, .bool false), (31, .bool false), (32, .tuple #[]), (33, .tuple #[]), (34, .tuple #[]), (35, .bool false), (36, .iface 138 (.agg #[.string a0, .iface 80 (.agg #[.int .i64 a0_1.n])])), (37, .tuple #[.iface 138 (.agg #[.string a0, .iface 80 (.agg #[.int .i64 a0_1.n])]), .bool true]), (38, .bool true), (39, .iface 138 (.agg #[.string a0, .iface 80 (.agg #[.int .i64 a0_1.n])])), (40, .iface 138 (.agg #[.string a0, .iface 80 (.agg #[.int .i64 a0_1.n])])), (41, .iface 80 (.agg #[.int .i64 r3.n])), (42, .iface 80 (.agg #[.int .i64 r3.n])), (43, .bool false)]) (fun _ => [(b_0, .cells #[.int .i64 a1.n] 80 (0, 0)), (b_1, .cells #[.pointer (some ⟨b_0, 0, none⟩)] 82 (0, 0)), (b1, .cells #[.pointer (some ⟨2, 82, none⟩), .pointer (some ⟨b_1, 0, none⟩), .int .u64 150] 106 (0, 0))]) (fun _ => []) (fun _ => by kernel_rfl) (fun _ => ?_)
  refine WP.no rfl rfl ?_
  refine WP.skip ?_
  refine WP.leave ?_
  refine WP.leave ?_
  refine WP.round ?_
  refine WP.block ?_
  refine WP.seq ?_
  refine WP.seq ?_
  refine WP.run [] [0, 1, 3, 6, 8, 9, 10, 11, 16, 17, 18, 19, 25, 26, 27, 28, 29, 30, 31, 32, 33, 34, 35, 36, 37, 38, 39, 40, 41, 42, 43] (fun _ => [(0, .iface 80 (.agg #[.int .i64 r3.n])), (1, .iface 82 (.pointer (some ⟨b_0, 0, none⟩))), (3, .iface 148 (.agg #[.pointer (some ⟨2, 80, none⟩)])), (6, .pointer (some ⟨b1, 0, none⟩)), (8, .bool false), (9, .nilIface), (10, .bool false), (11, .iface 138 (.agg #[.string a0, .iface 80 (.agg #[.int .i64 a0_1.n])])), (16, .iface 80 (.agg #[.int .i64 r3.n])), (17, .iface 148 (.agg #[.pointer (some ⟨2, 80, none⟩)])), (18, .iface 148 (.agg #[.pointer (some ⟨2, 80, none⟩)])), (19, .bool true), (25, .tuple #[.nilIface, .bool false]), (26, .iface 138 (.agg #[.string a0, .iface 80 (.agg #[.int .i64 a0_1.n])])), (27, .tuple #[.nilIface, .bool false]), (28, .nilIface), (29, .bool false), (30, .bool false), (31, .bool false), (32, .tuple #[]), (33, .tuple #[]), (34, .tuple #[]), (35, .bool false), (36, .iface 138 (.agg #[.string a0, .iface 80 (.agg #[.int .i64 a0_1.n])])), (37, .tuple #[.iface 138 (.agg #[.string a0, .iface 80 (.agg #[.int .i64 a0_1.n])]), .bool true]), (38, .bool true), (39, .iface 138 (.agg #[.string a0, .iface 80 (.agg #[.int .i64 a0_1.n])])), (40, .iface 138 (.agg #[.string a0, .iface 80 (.agg #[.int .i64 a0_1.n])])), (41, .iface 80 (.agg #[.int .i64 r3.n])), (42, .iface 80 (.agg #[.int .i64 r3.n])), (43, .bool false)]) (fun _ => [(b_0, .cells #[.int .i64 a1.n] 80 (0, 0)), (b_1, .cells #[.pointer (some ⟨b_0, 0, none⟩)] 82 (0, 0)), (b1, .cells #[.pointer (some ⟨2, 82, none⟩), .pointer (some ⟨b_1, 0, none⟩), .int .u64 150] 106 (0, 0))]) (fun _ => []) (fun _ => by kernel_rfl) (fun _ => ?_)
  refine WP.yes rfl rfl ?_
  refine WP.seq ?_
  refine WP.run [2, 2, 2, 1, 3, 0] [0, 1, 3, 6, 8, 9, 10, 11, 16, 17, 18, 19, 20, 21, 22, 23, 25, 26, 27, 28, 29, 30, 31, 32, 33, 34, 35, 36, 37, 38, 39, 40, 41, 42, 43] (fun b5 => [(0, .iface 80 (.agg #[.int .i64 r3.n])), (1, .iface 82 (.pointer (some ⟨b_0, 0, none⟩))), (3, .iface 148 (.agg #[.pointer (some ⟨2, 80, none⟩)])), (6, .pointer (some ⟨b1, 0, none⟩)), (8, .bool false), (9, .nilIface), (10, .bool false), (11, .iface 138 (.agg #[.string a0, .iface 80 (.agg #[.int .i64 a0_1.n])])), (16, .iface 80 (.agg #[.int .i64 r3.n])), (17, .iface 148 (.agg #[.pointer (some ⟨2, 80, none⟩)])), (18, .iface 148 (.agg #[.pointer (some ⟨2, 80, none⟩)])), (19, .bool true), (20, .agg #[.pointer (some ⟨2, 82, none⟩), .pointer (some ⟨b_1, 0, none⟩), .int .u64 150]), (21, .agg #[.pointer (some ⟨2, 80, none⟩), .pointer (some ⟨b_0, 0, none⟩), .int .u64 409]), (22, .iface 80 (.agg #[.int .i64 r3.n])), (23, .agg #[.pointer (some ⟨2, 80, none⟩), .pointer (some ⟨b5, 0, none⟩), .int .u64 153]), (25, .tuple #[.nilIface, .bool false]), (26, .iface 138 (.agg #[.string a0, .iface 80 (.agg #[.int .i64 a0_1.n])])), (27, .tuple #[.nilIface, .bool false]), (28, .nilIface), (29, .bool false), (30, .bool false), (31, .bool false), (32, .tuple #[]), (33, .tuple #[]), (34, .tuple #[]), (35, .bool false), (36, .iface 138 (.agg #[.string a0, .iface 80 (.agg #[.int .i64 a0_1.n])])), (37, .tuple #[.iface 138 (.agg #[.string a0, .iface 80 (.agg #[.int .i64 a0_1.n])]), .bool true]), (38, .bool true), (39, .iface 138 (.agg #[.string a0, .iface 80 (.agg #[.int .i64 a0_1.n])])), (40, .iface 138 (.agg #[.string a0, .iface 80 (.agg #[.int .i64 a0_1.n])])), (41, .iface 80 (.agg #[.int .i64 r3.n])), (42, .iface 80 (.agg #[.int .i64 r3.n])), (43, .bool false)]) (fun b5 => [(b_0, .cells #[.int .i64 r3.n] 80 (0, 0)), (b_1, .cells #[.pointer (some ⟨b_0, 0, none⟩)] 82 (0, 0)), (b1, .cells #[.pointer (some ⟨2, 82, none⟩), .pointer (some ⟨b_1, 0, none⟩), .int .u64 150] 106 (0, 0)), (b5, .cells #[.int .i64 r3.n] 80 (0, 0))]) (fun b5 => [b_0, b5, b_1, b1, b1, b1]) (fun b5 => by kernel_rfl) (fun b5 => ?_)
  refine WP.seq ?_
  refine WP.run [] [0, 1, 3, 6, 8, 9, 10, 11, 16, 17, 18, 19, 20, 21, 22, 23, 25, 26, 27, 28, 29, 30, 31, 32, 33, 34, 35, 36, 37, 38, 39, 40, 41, 42, 43] (fun _ => [(0, .iface 80 (.agg #[.int .i64 r3.n])), (1, .iface 82 (.pointer (some ⟨b_0, 0, none⟩))), (3, .iface 148 (.agg #[.pointer (some ⟨2, 80, none⟩)])), (6, .pointer (some ⟨b1, 0, none⟩)), (8, .bool true), (9, .nilIface), (10, .bool false), (11, .iface 138 (.agg #[.string a0, .iface 80 (.agg #[.int .i64 a0_1.n])])), (16, .iface 80 (.agg #[.int .i64 r3.n])), (17, .iface 148 (.agg #[.pointer (some ⟨2, 80, none⟩)])), (18, .iface 148 (.agg #[.pointer (some ⟨2, 80, none⟩)])), (19, .bool true), (20, .agg #[.pointer (some ⟨2, 82, none⟩), .pointer (some ⟨b_1, 0, none⟩), .int .u64 150]), (21, .agg #[.pointer (some ⟨2, 80, none⟩), .pointer (some ⟨b_0, 0, none⟩), .int .u64 409]), (22, .iface 80 (.agg #[.int .i64 r3.n])), (23, .agg #[.pointer (some ⟨2, 80, none⟩), .pointer (some ⟨b5, 0, none⟩), .int .u64 153]), (25, .tuple #[.nilIface, .bool false]), (26, .iface 138 (.agg #[.string a0, .iface 80 (.agg #[.int .i64 a0_1.n])])), (27, .tuple #[.nilIface, .bool false]), (28, .nilIface), (29, .bool false), (30, .bool false), (31, .bool false), (32, .tuple #[]), (33, .tuple #[]), (34, .tuple #[]), (35, .bool false), (36, .iface 138 (.agg #[.string a0, .iface 80 (.agg #[.int .i64 a0_1.n])])), (37, .tuple #[.iface 138 (.agg #[.string a0, .iface 80 (.agg #[.int .i64 a0_1.n])]), .bool true]), (38, .bool true), (39, .iface 138 (.agg #[.string a0, .iface 80 (.agg #[.int .i64 a0_1.n])])), (40, .iface 138 (.agg #[.string a0, .iface 80 (.agg #[.int .i64 a0_1.n])])), (41, .iface 80 (.agg #[.int .i64 r3.n])), (42, .iface 80 (.agg #[.int .i64 r3.n])), (43, .bool false)]) (fun _ => [(b_0, .cells #[.int .i64 r3.n] 80 (0, 0)), (b_1, .cells #[.pointer (some ⟨b_0, 0, none⟩)] 82 (0, 0)), (b1, .cells #[.pointer (some ⟨2, 82, none⟩), .pointer (some ⟨b_1, 0, none⟩), .int .u64 150] 106 (0, 0)), (b5, .cells #[.int .i64 r3.n] 80 (0, 0))]) (fun _ => []) (fun _ => by kernel_rfl) (fun _ => ?_)
  obtain rfl := Option.some.inj hM
  exact WP.ret [] [] (.bool true) (by kernel_rfl) (fun w' hw => ⟨(), rfl, hw.pick [0, 1] (by kernel_rfl)⟩)

end Go.Proofs.YtbodofjnfmjbpaaGreatDoor

namespace Go.Proofs.YtbodofjnfmjbpaaGreatDoor
open Go Eng
set_option linter.unusedVariables false
set_option linter.unusedSimpArgs false

/-! ### errors.As: function 34 -/
def errors_As_4.f (a0 : ByteArray) (a0_1 : station_why) (a1 : station_why) : Option (Bool × station_why) :=
  (errors_as_3.f a0 a0_1 a1).bind fun (r2, r3) =>
  some (r2, r3)

set_option maxRecDepth 100000 in
theorem errors_As_4_calls (b_0 : Nat) (a0 : ByteArray) (a0_1 : station_why) (a1 : station_why) (r : Bool × station_why) (h : errors_As_4.f a0 a0_1 a1 = some r) : Does Tryz.prog 34 #[.iface 138 (.agg #[.string a0, .iface 80 (.agg #[.int .i64 a0_1.n])]), .iface 82 (.pointer (some ⟨b_0, 0, none⟩))] [(b_0, .cells #[.int .i64 a1.n] 80 (0, 0))] Glob (fun _ : Unit => .bool r.1) (fun _ => [(b_0, .cells #[.int .i64 r.2.n] 80 (0, 0))]) (fun _ => []) (fun _ => Glob) := by
  intro w Z hS
  refine calls_of (args := [.iface 138 (.agg #[.string a0, .iface 80 (.agg #[.int .i64 a0_1.n])]), .iface 82 (.pointer (some ⟨b_0, 0, none⟩))]) (L := [(0, .iface 138 (.agg #[.string a0, .iface 80 (.agg #[.int .i64 a0_1.n])])), (1, .iface 82 (.pointer (some ⟨b_0, 0, none⟩)))]) (N := 42) (S := Sat w Z [(b_0, .cells #[.int .i64 a1.n] 80 (0, 0))] [] Glob) Tryz.func34 rfl rfl (Nat.le_of_ble_eq_true rfl) rfl hS ?_
  have hM := h
  clear h hS
  unfold errors_As_4.f at hM
  refine WP.seq ?_
  refine WP.run [] [0, 1, 4] (fun _ => [(0, .iface 138 (.agg #[.string a0, .iface 80 (.agg #[.int .i64 a0_1.n])])), (1, .iface 82 (.pointer (some ⟨b_0, 0, none⟩))), (4, .bool false)]) (fun _ => [(b_0, .cells #[.int .i64 a1.n] 80 (0, 0))]) (fun _ => []) (fun _ => by kernel_rfl) (fun _ => ?_)
  refine WP.seq ?_
  refine WP.seq ?_
  refine WP.run [] [0, 1, 4, 9] (fun _ => [(0, .iface 138 (.agg #[.string a0, .iface 80 (.agg #[.int .i64 a0_1.n])])), (1, .iface 82 (.pointer (some ⟨b_0, 0, none⟩))), (4, .bool false), (9, .bool false)]) (fun _ => [(b_0, .cells #[.int .i64 a1.n] 80 (0, 0))]) (fun _ => []) (fun _ => by kernel_rfl) (fun _ => ?_)
  refine WP.no rfl rfl ?_
  refine WP.skip ?_
  refine WP.seq ?_
  refine WP.seq ?_
  refine WP.run [] [0, 1, 4, 11] (fun _ => [(0, .iface 138 (.agg #[.string a0, .iface 80 (.agg #[.int .i64 a0_1.n])])), (1, .iface 82 (.pointer (some ⟨b_0, 0, none⟩))), (4, .bool false), (11, .bool false)]) (fun _ => [(b_0, .cells #[.int .i64 a1.n] 80 (0, 0))]) (fun _ => []) (fun _ => by kernel_rfl) (fun _ => ?_)
  refine WP.no rfl rfl ?_
  refine WP.skip ?_
  refine WP.seq ?_
  refine WP.run [2, 2, 2] [0, 1, 4, 5] (fun b1 => [(0, .iface 138 (.agg #[.string a0, .iface 80 (.agg #[.int .i64 a0_1.n])])), (1, .iface 82 (.pointer (some ⟨b_0, 0, none⟩))), (4, .bool false), (5, .pointer (some ⟨(b1 + 1), 0, none⟩))]) (fun b1 => [(b_0, .cells #[.int .i64 a1.n] 80 (0, 0)), (b1, .cells #[.pointer (some ⟨b_0, 0, none⟩)] 82 (0, 0)), ((b1 + 1), .cells #[.pointer (some ⟨2, 82, none⟩), .pointer (some ⟨b1, 0, none⟩), .int .u64 150] 106 (0, 0))]) (fun b1 => [(b1 + 1), (b1 + 1), (b1 + 1)]) (fun b1 => by kernel_rfl) (fun b1 => ?_)
  refine WP.seq ?_
  refine WP.run [2, 2, 2] [0, 1, 4, 5, 6] (fun _ => [(0, .iface 138 (.agg #[.string a0, .iface 80 (.agg #[.int .i64 a0_1.n])])), (1, .iface 82 (.pointer (some ⟨b_0, 0, none⟩))), (4, .bool false), (5, .pointer (some ⟨(b1 + 1), 0, none⟩)), (6, .iface 148 (.agg #[.pointer (some ⟨2, 82, none⟩)]))]) (fun _ => [(b_0, .cells #[.int .i64 a1.n] 80 (0, 0)), (b1, .cells #[.pointer (some ⟨b_0, 0, none⟩)] 82 (0, 0)), ((b1 + 1), .cells #[.pointer (some ⟨2, 82, none⟩), .pointer (some ⟨b1, 0, none⟩), .int .u64 150] 106 (0, 0))]) (fun _ => [(b1 + 1), (b1 + 1), (b1 + 1)]) (fun _ => by kernel_rfl) (fun _ => ?_)
  refine WP.seq ?_
  refine WP.seq ?_
  refine WP.run [2, 2, 2, 1] [0, 1, 4, 5, 6, 23] (fun _ => [(0, .iface 138 (.agg #[.string a0, .iface 80 (.agg #[.int .i64 a0_1.n])])), (1, .iface 82 (.pointer (some ⟨b_0, 0, none⟩))), (4, .bool false), (5, .pointer (some ⟨(b1 + 1), 0, none⟩)), (6, .iface 148 (.agg #[.pointer (some ⟨2, 82, none⟩)])), (23, .bool false)]) (fun _ => [(b_0, .cells #[.int .i64 a1.n] 80 (0, 0)), (b1, .cells #[.pointer (some ⟨b_0, 0, none⟩)] 82 (0, 0)), ((b1 + 1), .cells #[.pointer (some ⟨2, 82, none⟩), .pointer (some ⟨b1, 0, none⟩), .int .u64 150] 106 (0, 0))]) (fun _ => [b1, (b1 + 1), (b1 + 1), (b1 + 1)]) (fun _ => by kernel_rfl) (fun _ => ?_)
  refine WP.no rfl rfl ?_
  refine WP.skip ?_
  refine WP.seq ?_
  refine WP.run [] [0, 1, 4, 5, 7] (fun _ => [(0, .iface 138 (.agg #[.string a0, .iface 80 (.agg #[.int .i64 a0_1.n])])), (1, .iface 82 (.pointer (some ⟨b_0, 0, none⟩))), (4, .bool false), (5, .pointer (some ⟨(b1 + 1), 0, none⟩)), (7, .iface 148 (.agg #[.pointer (some ⟨2, 80, none⟩)]))]) (fun _ => [(b_0, .cells #[.int .i64 a1.n] 80 (0, 0)), (b1, .cells #[.pointer (some ⟨b_0, 0, none⟩)] 82 (0, 0)), ((b1 + 1), .cells #[.pointer (some ⟨2, 82, none⟩), .pointer (some ⟨b1, 0, none⟩), .int .u64 150] 106 (0, 0))]) (fun _ => []) (fun _ => by kernel_rfl) (fun _ => ?_)
  refine WP.seq ?_
  refine WP.seq ?_
  refine WP.region ?_
  refine WL.run 5 [] [0, 1, 4, 5, 7, 30, 31] (fun _ => [(0, .iface 138 (.agg #[.string a0, .iface 80 (.agg #[.int .i64 a0_1.n])])), (1, .iface 82 (.pointer (some ⟨b_0, 0, none⟩))), (4, .bool false), (5, .pointer (some ⟨(b1 + 1), 0, none⟩)), (7, .iface 148 (.agg #[.pointer (some ⟨2, 80, none⟩)])), (30, .bool true), (31, .iface 148 (.agg #[.pointer (some ⟨2, 80, none⟩)]))]) (fun _ => [(b_0, .cells #[.int .i64 a1.n] 80 (0, 0)), (b1, .cells #[.pointer (some ⟨b_0, 0, none⟩)] 82 (0, 0)), ((b1 + 1), .cells #[.pointer (some ⟨2, 82, none⟩), .pointer (some ⟨b1, 0, none⟩), .int .u64 150] 106 (0, 0))]) (fun _ => []) (fun _ => by kernel_rfl) (fun _ => ?_)
  refine WL.loadGlob (v := .iface 148 (.agg #[.pointer (some ⟨2, 73, none⟩)])) (by simp [Glob]) (fun _ => by kernel_rfl) (by kernel_rfl) rfl ?_
  refine WL.run 3 [] [0, 1, 4, 5, 7, 35] (fun _ => [(0, .iface 138 (.agg #[.string a0, .iface 80 (.agg #[.int .i64 a0_1.n])])), (1, .iface 82 (.pointer (some ⟨b_0, 0, none⟩))), (4, .bool false), (5, .pointer (some ⟨(b1 + 1), 0, none⟩)), (7, .iface 148 (.agg #[.pointer (some ⟨2, 80, none⟩)])), (35, .bool false)]) (fun _ => [(b_0, .cells #[.int .i64 a1.n] 80 (0, 0)), (b1, .cells #[.pointer (some ⟨b_0, 0, none⟩)] 82 (0, 0)), ((b1 + 1), .cells #[.pointer (some ⟨2, 82, none⟩), .pointer (some ⟨b1, 0, none⟩), .int .u64 150] 106 (0, 0))]) (fun _ => []) (fun _ => by kernel_rfl) (fun _ => ?_)
  refine WP.done ?_
  refine WP.no rfl rfl ?_
  refine WP.skip ?_
  refine WP.seq ?_
  refine WP.region ?_
  refine WL.run 4 [2, 2, 2] [4, 37, 38, 39, 40] (fun _ => [(4, .bool false), (37, .iface 138 (.agg #[.string a0, .iface 80 (.agg #[.int .i64 a0_1.n])])), (38, .iface 82 (.pointer (some ⟨b_0, 0, none⟩))), (39, .agg #[.pointer (some ⟨2, 82, none⟩), .pointer (some ⟨b1, 0, none⟩), .int .u64 150]), (40, .iface 148 (.agg #[.pointer (some ⟨2, 80, none⟩)]))]) (fun _ => [(b_0, .cells #[.int .i64 a1.n] 80 (0, 0)), (b1, .cells #[.pointer (some ⟨b_0, 0, none⟩)] 82 (0, 0)), ((b1 + 1), .cells #[.pointer (some ⟨2, 82, none⟩), .pointer (some ⟨b1, 0, none⟩), .int .u64 150] 106 (0, 0))]) (fun _ => [(b1 + 1), (b1 + 1), (b1 + 1)]) (fun _ => by kernel_rfl) (fun _ => ?_)
  obtain ⟨⟨r2, r3⟩, h4, hM⟩ := bind_some hM
  dsimp only at hM
  refine WL.callE (X := Unit) [] [] [true, true, false] (fun _ => _) (errors_as_3_calls b_0 b1 a0 a0_1 a1 _ h4) rfl rfl (fun _ h => h) (by kernel_rfl) (by kernel_rfl) (fun _ => rfl) (fun _ => ?_)
  refine WL.run 1 [] [4] (fun _ => [(4, .bool r2)]) (fun _ => [(b_0, .cells #[.int .i64 r3.n] 80 (0, 0)), (b1, .cells #[.pointer (some ⟨b_0, 0, none⟩)] 82 (0, 0)), ((b1 + 1), .cells #[.pointer (some ⟨2, 82, none⟩), .pointer (some ⟨b1, 0, none⟩), .int .u64 150] 106 (0, 0))]) (fun _ => []) (fun _ => by kernel_rfl) (fun _ => ?_)
  refine WP.done ?_
  refine WP.keep [true, false, false] (by kernel_rfl : _ = [(b_0, .cells #[.int .i64 r3.n] 80 (0, 0))]) ?_
  obtain rfl := Option.some.inj hM
  exact WP.ret [] [] (.bool r2) (by kernel_rfl) (fun w' hw => ⟨(), rfl, hw.pick [0] (by kernel_rfl)⟩)

end Go.Proofs.YtbodofjnfmjbpaaGreatDoor

namespace Go.Proofs.YtbodofjnfmjbpaaGreatDoor
open Go Eng
set_option linter.unusedVariables false
set_option linter.unusedSimpArgs false

/-! ### gangway/station.Take: function 15 -/
def station_Take.k2 (r15 : api_Got) (x29 : Int) : Option (api_Got × api_Arp) :=
  some (r15, (api_Arp.mk 0 0 0 0 0))

def station_Take.k1 (k : Nat) (a2 : api_Frame) (a0 : Int) (a1 : Int) (x7 : Bool) : Option (api_Got × api_Arp) :=
  bif x7 then
    (arp_Of.f k a2).bind fun (r9, r10) =>
    bif !r10 then
      some ((api_Got.mk 3 0 (api_Udp.mk 0 0 false (⟨#[]⟩ : ByteArray))), (api_Arp.mk 0 0 0 0 0))
    else
      some ((api_Got.mk 1 0 (api_Udp.mk 0 0 false (⟨#[]⟩ : ByteArray))), r9)
  else
    (station_got.f k a0 a1 a2).bind fun (r15, r16) =>
    match r16 with
    | none =>
      (errors_As_3.f (station_why.mk 0)).bind fun r20 =>
      bif r20 then
        some ((api_Got.mk 0 0 (api_Udp.mk 0 0 false (⟨#[]⟩ : ByteArray))), (api_Arp.mk 0 0 0 0 0))
      else
        station_Take.k2 r15 0
    | some (q23, q24) =>
      (errors_As_4.f q23 q24 (station_why.mk 0)).bind fun (r25, r26) =>
      bif r25 then
        some ((api_Got.mk r26.n 0 (api_Udp.mk 0 0 false (⟨#[]⟩ : ByteArray))), (api_Arp.mk 0 0 0 0 0))
      else
        station_Take.k2 r15 r26.n

def station_Take.f (k : Nat) (a0 : Int) (a1 : Int) (a2 : api_Frame) : Option (api_Got × api_Arp) :=
  bif (a2.Type_ == 2054) then
    (station_framed.f a0 a2).bind fun r3 =>
    match r3 with
    | none =>
      station_Take.k1 k a2 a0 a1 true
    | some (q5, q6) =>
      station_Take.k1 k a2 a0 a1 false
  else
    station_Take.k1 k a2 a0 a1 false

set_option maxRecDepth 100000 in
theorem station_Take_calls (k : Nat) (a0 : Int) (a1 : Int) (a2 : api_Frame) (r : api_Got × api_Arp) (h : station_Take.f k a0 a1 a2 = some r) : Pure Tryz.prog Glob 15 #[.int .u64 a0, .int .u32 a1, .agg #[.int .u64 a2.Dst, .int .u64 a2.Src, .bool a2.Tag.Has, .int .i64 a2.Tag.Pri, .bool a2.Tag.Dei, .int .i64 a2.Tag.Vid, .int .i64 a2.Type_, .string a2.Body]] (.tuple #[.agg #[.int .i64 r.1.Why, .int .u32 r.1.Src, .int .i64 r.1.U.Src, .int .i64 r.1.U.Dst, .bool r.1.U.NoSum, .string r.1.U.Body], .agg #[.int .i64 r.2.Op, .int .u64 r.2.SMac, .int .u32 r.2.SIp, .int .u64 r.2.TMac, .int .u32 r.2.TIp]]) := by
  intro w Z hS
  refine calls_of (args := [.int .u64 a0, .int .u32 a1, .agg #[.int .u64 a2.Dst, .int .u64 a2.Src, .bool a2.Tag.Has, .int .i64 a2.Tag.Pri, .bool a2.Tag.Dei, .int .i64 a2.Tag.Vid, .int .i64 a2.Type_, .string a2.Body]]) (L := [(0, .int .u64 a0), (1, .int .u32 a1), (2, .agg #[.int .u64 a2.Dst, .int .u64 a2.Src, .bool a2.Tag.Has, .int .i64 a2.Tag.Pri, .bool a2.Tag.Dei, .int .i64 a2.Tag.Vid, .int .i64 a2.Type_, .string a2.Body])]) (N := 49) (S := Sat w Z [] [] Glob) Tryz.func15 rfl rfl (Nat.le_of_ble_eq_true rfl) rfl hS ?_
  have hM := h
  clear h hS
  unfold station_Take.f at hM
  refine WP.seq ?_
  refine WP.run [] [0, 1, 5, 6, 7] (fun b1 => [(0, .int .u64 a0), (1, .int .u32 a1), (5, .pointer (some ⟨b1, 0, none⟩)), (6, .pointer (some ⟨(b1 + 1), 0, none⟩)), (7, .pointer (some ⟨(b1 + 2), 0, none⟩))]) (fun b1 => [(b1, .cells #[.int .u64 a2.Dst, .int .u64 a2.Src, .bool a2.Tag.Has, .int .i64 a2.Tag.Pri, .bool a2.Tag.Dei, .int .i64 a2.Tag.Vid, .int .i64 a2.Type_, .string a2.Body] 29 (0, 0)), ((b1 + 1), .cells #[.int .i64 0, .int .u32 0, .int .i64 0, .int .i64 0, .bool false, .string (⟨#[]⟩ : ByteArray)] 47 (0, 0)), ((b1 + 2), .cells #[.int .i64 0, .int .u64 0, .int .u32 0, .int .u64 0, .int .u32 0] 49 (0, 0))]) (fun b1 => []) (fun b1 => by kernel_rfl) (fun b1 => ?_)
  refine WP.seq ?_
  refine WP.seq ?_
  refine WP.region ?_
  refine WL.run 4 [0] [0, 1, 5, 6, 7, 16] (fun _ => [(0, .int .u64 a0), (1, .int .u32 a1), (5, .pointer (some ⟨b1, 0, none⟩)), (6, .pointer (some ⟨(b1 + 1), 0, none⟩)), (7, .pointer (some ⟨(b1 + 2), 0, none⟩)), (16, .bool (a2.Type_ == 2054))]) (fun _ => [(b1, .cells #[.int .u64 a2.Dst, .int .u64 a2.Src, .bool a2.Tag.Has, .int .i64 a2.Tag.Pri, .bool a2.Tag.Dei, .int .i64 a2.Tag.Vid, .int .i64 a2.Type_, .string a2.Body] 29 (0, 0)), ((b1 + 1), .cells #[.int .i64 0, .int .u32 0, .int .i64 0, .int .i64 0, .bool false, .string (⟨#[]⟩ : ByteArray)] 47 (0, 0)), ((b1 + 2), .cells #[.int .i64 0, .int .u64 0, .int .u32 0, .int .u64 0, .int .u32 0] 49 (0, 0))]) (fun _ => [b1]) (fun _ => by kernel_rfl) (fun _ => ?_)
  refine WL.sub [0, 1, 5, 6, 7, 16] (L' := [(0, .int .u64 a0), (1, .int .u32 a1), (5, .pointer (some ⟨b1, 0, none⟩)), (6, .pointer (some ⟨(b1 + 1), 0, none⟩)), (7, .pointer (some ⟨(b1 + 2), 0, none⟩)), (16, .bool (a2.Type_ == 2054))]) (by kernel_rfl) ?_
  refine WL.join (σ := Bool) 5 (fun st => station_Take.k1 k a2 a0 a1 st = some r) (fun st => [(0, .int .u64 a0), (1, .int .u32 a1), (5, .pointer (some ⟨b1, 0, none⟩)), (6, .pointer (some ⟨(b1 + 1), 0, none⟩)), (7, .pointer (some ⟨(b1 + 2), 0, none⟩)), (21, .bool st)]) (fun st => Sat w Z [(b1, .cells #[.int .u64 a2.Dst, .int .u64 a2.Src, .bool a2.Tag.Has, .int .i64 a2.Tag.Pri, .bool a2.Tag.Dei, .int .i64 a2.Tag.Vid, .int .i64 a2.Type_, .string a2.Body] 29 (0, 0)), ((b1 + 1), .cells #[.int .i64 0, .int .u32 0, .int .i64 0, .int .i64 0, .bool false, .string (⟨#[]⟩ : ByteArray)] 47 (0, 0)), ((b1 + 2), .cells #[.int .i64 0, .int .u64 0, .int .u32 0, .int .u64 0, .int .u32 0] 49 (0, 0))] [] Glob) (fun st hM => ?_) (fun K1 => ?_)
  ·
    obtain ⟨x7, rfl⟩ : ∃ y, y = st := ⟨st, rfl⟩
    replace hM : station_Take.k1 k a2 a0 a1 x7 = some r := hM
    unfold station_Take.k1 at hM
    show WL _ _ _ _ _ [(0, .int .u64 a0), (1, .int .u32 a1), (5, .pointer (some ⟨b1, 0, none⟩)), (6, .pointer (some ⟨(b1 + 1), 0, none⟩)), (7, .pointer (some ⟨(b1 + 2), 0, none⟩)), (21, .bool x7)] (Sat w Z [(b1, .cells #[.int .u64 a2.Dst, .int .u64 a2.Src, .bool a2.Tag.Has, .int .i64 a2.Tag.Pri, .bool a2.Tag.Dei, .int .i64 a2.Tag.Vid, .int .i64 a2.Type_, .string a2.Body] 29 (0, 0)), ((b1 + 1), .cells #[.int .i64 0, .int .u32 0, .int .i64 0, .int .i64 0, .bool false, .string (⟨#[]⟩ : ByteArray)] 47 (0, 0)), ((b1 + 2), .cells #[.int .i64 0, .int .u64 0, .int .u32 0, .int .u64 0, .int .u32 0] 49 (0, 0))] [] Glob)
    refine WP.done ?_
    refine WP.cond x7 rfl rfl (fun c8 => ?_) (fun c8 => ?_)
    · replace hM := cond_t hM c8
      refine WP.seq ?_
      refine WP.region ?_
      refine WL.run 1 [0, 0, 0, 0, 0, 0, 0, 0] [0, 1, 5, 6, 7, 23] (fun _ => [(0, .int .u64 a0), (1, .int .u32 a1), (5, .pointer (some ⟨b1, 0, none⟩)), (6, .pointer (some ⟨(b1 + 1), 0, none⟩)), (7, .pointer (some ⟨(b1 + 2), 0, none⟩)), (23, .agg #[.int .u64 a2.Dst, .int .u64 a2.Src, .bool a2.Tag.Has, .int .i64 a2.Tag.Pri, .bool a2.Tag.Dei, .int .i64 a2.Tag.Vid, .int .i64 a2.Type_, .string a2.Body])]) (fun _ => [(b1, .cells #[.int .u64 a2.Dst, .int .u64 a2.Src, .bool a2.Tag.Has, .int .i64 a2.Tag.Pri, .bool a2.Tag.Dei, .int .i64 a2.Tag.Vid, .int .i64 a2.Type_, .string a2.Body] 29 (0, 0)), ((b1 + 1), .cells #[.int .i64 0, .int .u32 0, .int .i64 0, .int .i64 0, .bool false, .string (⟨#[]⟩ : ByteArray)] 47 (0, 0)), ((b1 + 2), .cells #[.int .i64 0, .int .u64 0, .int .u32 0, .int .u64 0, .int .u32 0] 49 (0, 0))]) (fun _ => [b1, b1, b1, b1, b1, b1, b1, b1]) (fun _ => by kernel_rfl) (fun _ => ?_)
      obtain ⟨⟨r9, r10⟩, h11, hM⟩ := bind_some hM
      dsimp only at hM
      refine WL.callP [] [] (arp_Of_calls k a2 _ h11) (fun _ h => h) (by kernel_rfl) (by kernel_rfl) rfl ?_
      refine WL.run 6 [3, 3, 3, 3, 3] [0, 1, 5, 6, 7, 8, 9] (fun b12 => [(0, .int .u64 a0), (1, .int .u32 a1), (5, .pointer (some ⟨b1, 0, none⟩)), (6, .pointer (some ⟨(b1 + 1), 0, none⟩)), (7, .pointer (some ⟨(b1 + 2), 0, none⟩)), (8, .pointer (some ⟨b12, 0, none⟩)), (9, .bool r10)]) (fun b12 => [(b1, .cells #[.int .u64 a2.Dst, .int .u64 a2.Src, .bool a2.Tag.Has, .int .i64 a2.Tag.Pri, .bool a2.Tag.Dei, .int .i64 a2.Tag.Vid, .int .i64 a2.Type_, .string a2.Body] 29 (0, 0)), ((b1 + 1), .cells #[.int .i64 0, .int .u32 0, .int .i64 0, .int .i64 0, .bool false, .string (⟨#[]⟩ : ByteArray)] 47 (0, 0)), ((b1 + 2), .cells #[.int .i64 0, .int .u64 0, .int .u32 0, .int .u64 0, .int .u32 0] 49 (0, 0)), (b12, .cells #[.int .i64 r9.Op, .int .u64 r9.SMac, .int .u32 r9.SIp, .int .u64 r9.TMac, .int .u32 r9.TIp] 49 (0, 0))]) (fun b12 => [b12, b12, b12, b12, b12]) (fun b12 => by kernel_rfl) (fun b12 => ?_)
      refine WP.done ?_
      refine WP.seq ?_
      refine WP.seq ?_
      refine WP.run [] [0, 1, 5, 6, 7, 8, 28] (fun _ => [(0, .int .u64 a0), (1, .int .u32 a1), (5, .pointer (some ⟨b1, 0, none⟩)), (6, .pointer (some ⟨(b1 + 1), 0, none⟩)), (7, .pointer (some ⟨(b1 + 2), 0, none⟩)), (8, .pointer (some ⟨b12, 0, none⟩)), (28, .bool (!r10))]) (fun _ => [(b1, .cells #[.int .u64 a2.Dst, .int .u64 a2.Src, .bool a2.Tag.Has, .int .i64 a2.Tag.Pri, .bool a2.Tag.Dei, .int .i64 a2.Tag.Vid, .int .i64 a2.Type_, .string a2.Body] 29 (0, 0)), ((b1 + 1), .cells #[.int .i64 0, .int .u32 0, .int .i64 0, .int .i64 0, .bool false, .string (⟨#[]⟩ : ByteArray)] 47 (0, 0)), ((b1 + 2), .cells #[.int .i64 0, .int .u64 0, .int .u32 0, .int .u64 0, .int .u32 0] 49 (0, 0)), (b12, .cells #[.int .i64 r9.Op, .int .u64 r9.SMac, .int .u32 r9.SIp, .int .u64 r9.TMac, .int .u32 r9.TIp] 49 (0, 0))]) (fun _ => []) (fun _ => by kernel_rfl) (fun _ => ?_)
      refine WP.cond (!r10) rfl rfl (fun c13 => ?_) (fun c13 => ?_)
      · replace hM := cond_t hM c13
        refine WP.seq ?_
        refine WP.run [1, 1, 1, 1, 1, 1, 2, 2, 2, 2, 2] [0, 1, 5, 6, 7, 8] (fun _ => [(0, .int .u64 a0), (1, .int .u32 a1), (5, .pointer (some ⟨b1, 0, none⟩)), (6, .pointer (some ⟨(b1 + 1), 0, none⟩)), (7, .pointer (some ⟨(b1 + 2), 0, none⟩)), (8, .pointer (some ⟨b12, 0, none⟩))]) (fun _ => [(b1, .cells #[.int .u64 a2.Dst, .int .u64 a2.Src, .bool a2.Tag.Has, .int .i64 a2.Tag.Pri, .bool a2.Tag.Dei, .int .i64 a2.Tag.Vid, .int .i64 a2.Type_, .string a2.Body] 29 (0, 0)), ((b1 + 1), .cells #[.int .i64 3, .int .u32 0, .int .i64 0, .int .i64 0, .bool false, .string (⟨#[]⟩ : ByteArray)] 47 (0, 0)), ((b1 + 2), .cells #[.int .i64 0, .int .u64 0, .int .u32 0, .int .u64 0, .int .u32 0] 49 (0, 0)), (b12, .cells #[.int .i64 r9.Op, .int .u64 r9.SMac, .int .u32 r9.SIp, .int .u64 r9.TMac, .int .u32 r9.TIp] 49 (0, 0))]) (fun _ => [(b1 + 2), (b1 + 2), (b1 + 2), (b1 + 2), (b1 + 2), (b1 + 1), (b1 + 1), (b1 + 1), (b1 + 1), (b1 + 1), (b1 + 1)]) (fun _ => by kernel_rfl) (fun _ => ?_)
        obtain rfl := Option.some.inj hM
        exact WP.ret [1, 1, 1, 1, 1, 1, 2, 2, 2, 2, 2] [(b1 + 1), (b1 + 1), (b1 + 1), (b1 + 1), (b1 + 1), (b1 + 1), (b1 + 2), (b1 + 2), (b1 + 2), (b1 + 2), (b1 + 2)] (.tuple #[.agg #[.int .i64 3, .int .u32 0, .int .i64 0, .int .i64 0, .bool false, .string (⟨#[]⟩ : ByteArray)], .agg #[.int .i64 0, .int .u64 0, .int .u32 0, .int .u64 0, .int .u32 0]]) (by kernel_rfl) (fun w' hw => ⟨rfl, hw.pick [] rfl⟩)
      · replace hM := cond_f hM c13
        refine WP.skip ?_
        refine WP.seq ?_
        refine WP.sub [0, 1, 5, 6, 7, 8] (L' := [(0, .int .u64 a0), (1, .int .u32 a1), (5, .pointer (some ⟨b1, 0, none⟩)), (6, .pointer (some ⟨(b1 + 1), 0, none⟩)), (7, .pointer (some ⟨(b1 + 2), 0, none⟩)), (8, .pointer (some ⟨b12, 0, none⟩))]) (by kernel_rfl) ?_
        refine WP.pick [0, 2, 3, 1] (by kernel_rfl) (by kernel_rfl : _ = [(b1, .cells #[.int .u64 a2.Dst, .int .u64 a2.Src, .bool a2.Tag.Has, .int .i64 a2.Tag.Pri, .bool a2.Tag.Dei, .int .i64 a2.Tag.Vid, .int .i64 a2.Type_, .string a2.Body] 29 (0, 0)), ((b1 + 2), .cells #[.int .i64 0, .int .u64 0, .int .u32 0, .int .u64 0, .int .u32 0] 49 (0, 0)), (b12, .cells #[.int .i64 r9.Op, .int .u64 r9.SMac, .int .u32 r9.SIp, .int .u64 r9.TMac, .int .u32 r9.TIp] 49 (0, 0)), ((b1 + 1), .cells #[.int .i64 0, .int .u32 0, .int .i64 0, .int .i64 0, .bool false, .string (⟨#[]⟩ : ByteArray)] 47 (0, 0))]) ?_
        refine WP.mixed (X := Unit) 3 [.val (.agg #[.int .i64 1, .int .u32 0, .int .i64 0, .int .i64 0, .bool false, .string (⟨#[]⟩ : ByteArray)]), .val (.agg #[.int .i64 r9.Op, .int .u64 r9.SMac, .int .u32 r9.SIp, .int .u64 r9.TMac, .int .u32 r9.TIp]), .put 3 [] (fun tt => .cells #[.int .i64 1, .int .u32 0, .int .i64 0, .int .i64 0, .bool false, .string (⟨#[]⟩ : ByteArray)] 47 (0, 0))] [(b1, .cells #[.int .u64 a2.Dst, .int .u64 a2.Src, .bool a2.Tag.Has, .int .i64 a2.Tag.Pri, .bool a2.Tag.Dei, .int .i64 a2.Tag.Vid, .int .i64 a2.Type_, .string a2.Body] 29 (0, 0)), ((b1 + 2), .cells #[.int .i64 0, .int .u64 0, .int .u32 0, .int .u64 0, .int .u32 0] 49 (0, 0)), (b12, .cells #[.int .i64 r9.Op, .int .u64 r9.SMac, .int .u32 r9.SIp, .int .u64 r9.TMac, .int .u32 r9.TIp] 49 (0, 0))] [((b1 + 1), .cells #[.int .i64 0, .int .u32 0, .int .i64 0, .int .i64 0, .bool false, .string (⟨#[]⟩ : ByteArray)] 47 (0, 0))] (by kernel_rfl) (by kernel_rfl) (by kernel_rfl) (by kernel_rfl) (Heads.val (fun tt Ψ => OpV.run [] [] (by kernel_rfl) (fun _ => by kernel_rfl)) (Heads.val (fun tt Ψ => OpV.run [2, 2, 2, 2, 2] [b12, b12, b12, b12, b12] (by kernel_rfl) (fun _ => by kernel_rfl)) (Heads.put (fun x x' h => rfl) 0 (b1 + 1) (.cells #[.int .i64 0, .int .u32 0, .int .i64 0, .int .i64 0, .bool false, .string (⟨#[]⟩ : ByteArray)] 47 (0, 0)) (fun tt => .cells #[.int .i64 0, .int .u32 0, .int .i64 0, .int .i64 0, .bool false, .string (⟨#[]⟩ : ByteArray)] 47 (0, 0)) (by kernel_rfl) rfl (fun _ => by kernel_rfl) (fun tt Ψ => OpP.run [3, 3, 3, 3, 3, 3] [(b1 + 1), (b1 + 1), (b1 + 1), (b1 + 1), (b1 + 1), (b1 + 1)] (by kernel_rfl) (fun _ _ => by kernel_rfl) (fun _ _ => by kernel_rfl)) Heads.nil))) (fun s14 tt => [(31, .agg #[.int .i64 1, .int .u32 0, .int .i64 0, .int .i64 0, .bool false, .string (⟨#[]⟩ : ByteArray)]), (32, .agg #[.int .i64 r9.Op, .int .u64 r9.SMac, .int .u32 r9.SIp, .int .u64 r9.TMac, .int .u32 r9.TIp]), (0, .int .u64 a0), (1, .int .u32 a1), (5, .pointer (some ⟨b1, 0, none⟩)), (6, .pointer (some ⟨(b1 + 1), 0, none⟩)), (7, .pointer (some ⟨(b1 + 2), 0, none⟩)), (8, .pointer (some ⟨b12, 0, none⟩))]) (fun s14 tt => [(b1, .cells #[.int .u64 a2.Dst, .int .u64 a2.Src, .bool a2.Tag.Has, .int .i64 a2.Tag.Pri, .bool a2.Tag.Dei, .int .i64 a2.Tag.Vid, .int .i64 a2.Type_, .string a2.Body] 29 (0, 0)), ((b1 + 2), .cells #[.int .i64 0, .int .u64 0, .int .u32 0, .int .u64 0, .int .u32 0] 49 (0, 0)), (b12, .cells #[.int .i64 r9.Op, .int .u64 r9.SMac, .int .u32 r9.SIp, .int .u64 r9.TMac, .int .u32 r9.TIp] 49 (0, 0)), ((b1 + 1), .cells #[.int .i64 1, .int .u32 0, .int .i64 0, .int .i64 0, .bool false, .string (⟨#[]⟩ : ByteArray)] 47 (0, 0))]) (fun tt => Glob) (fun _ _ => by kernel_rfl) (fun _ _ => by kernel_rfl) (fun _ => by kernel_rfl) (fun s14 tt => ?_)
        refine WL.run 1 [1, 1, 1, 1, 1] [0, 1, 5, 6, 7] (fun _ => [(0, .int .u64 a0), (1, .int .u32 a1), (5, .pointer (some ⟨b1, 0, none⟩)), (6, .pointer (some ⟨(b1 + 1), 0, none⟩)), (7, .pointer (some ⟨(b1 + 2), 0, none⟩))]) (fun _ => [(b1, .cells #[.int .u64 a2.Dst, .int .u64 a2.Src, .bool a2.Tag.Has, .int .i64 a2.Tag.Pri, .bool a2.Tag.Dei, .int .i64 a2.Tag.Vid, .int .i64 a2.Type_, .string a2.Body] 29 (0, 0)), ((b1 + 2), .cells #[.int .i64 r9.Op, .int .u64 r9.SMac, .int .u32 r9.SIp, .int .u64 r9.TMac, .int .u32 r9.TIp] 49 (0, 0)), (b12, .cells #[.int .i64 r9.Op, .int .u64 r9.SMac, .int .u32 r9.SIp, .int .u64 r9.TMac, .int .u32 r9.TIp] 49 (0, 0)), ((b1 + 1), .cells #[.int .i64 1, .int .u32 0, .int .i64 0, .int .i64 0, .bool false, .string (⟨#[]⟩ : ByteArray)] 47 (0, 0))]) (fun _ => [(b1 + 2), (b1 + 2), (b1 + 2), (b1 + 2), (b1 + 2)]) (fun _ => by kernel_rfl) (fun _ => ?_)
        refine WP.done ?_
        refine WP.keep [true, true, false, true] (by kernel_rfl : _ = [(b1, .cells #[.int .u64 a2.Dst, .int .u64 a2.Src, .bool a2.Tag.Has, .int .i64 a2.Tag.Pri, .bool a2.Tag.Dei, .int .i64 a2.Tag.Vid, .int .i64 a2.Type_, .string a2.Body] 29 (0, 0)), ((b1 + 2), .cells #[.int .i64 r9.Op, .int .u64 r9.SMac, .int .u32 r9.SIp, .int .u64 r9.TMac, .int .u32 r9.TIp] 49 (0, 0)), ((b1 + 1), .cells #[.int .i64 1, .int .u32 0, .int .i64 0, .int .i64 0, .bool false, .string (⟨#[]⟩ : ByteArray)] 47 (0, 0))]) ?_
        obtain rfl := Option.some.inj hM
        exact WP.ret [2, 2, 2, 2, 2, 2, 1, 1, 1, 1, 1] [(b1 + 1), (b1 + 1), (b1 + 1), (b1 + 1), (b1 + 1), (b1 + 1), (b1 + 2), (b1 + 2), (b1 + 2), (b1 + 2), (b1 + 2)] (.tuple #[.agg #[.int .i64 1, .int .u32 0, .int .i64 0, .int .i64 0, .bool false, .string (⟨#[]⟩ : ByteArray)], .agg #[.int .i64 r9.Op, .int .u64 r9.SMac, .int .u32 r9.SIp, .int .u64 r9.TMac, .int .u32 r9.TIp]]) (by kernel_rfl) (fun w' hw => ⟨rfl, hw.pick [] rfl⟩)
    · replace hM := cond_f hM c8
      refine WP.skip ?_
      refine WP.seq ?_
      refine WP.region ?_
      refine WL.run 3 [0, 0, 0, 0, 0, 0, 0, 0] [6, 7, 34, 35, 36] (fun _ => [(6, .pointer (some ⟨(b1 + 1), 0, none⟩)), (7, .pointer (some ⟨(b1 + 2), 0, none⟩)), (34, .int .u64 a0), (35, .int .u32 a1), (36, .agg #[.int .u64 a2.Dst, .int .u64 a2.Src, .bool a2.Tag.Has, .int .i64 a2.Tag.Pri, .bool a2.Tag.Dei, .int .i64 a2.Tag.Vid, .int .i64 a2.Type_, .string a2.Body])]) (fun _ => [(b1, .cells #[.int .u64 a2.Dst, .int .u64 a2.Src, .bool a2.Tag.Has, .int .i64 a2.Tag.Pri, .bool a2.Tag.Dei, .int .i64 a2.Tag.Vid, .int .i64 a2.Type_, .string a2.Body] 29 (0, 0)), ((b1 + 1), .cells #[.int .i64 0, .int .u32 0, .int .i64 0, .int .i64 0, .bool false, .string (⟨#[]⟩ : ByteArray)] 47 (0, 0)), ((b1 + 2), .cells #[.int .i64 0, .int .u64 0, .int .u32 0, .int .u64 0, .int .u32 0] 49 (0, 0))]) (fun _ => [b1, b1, b1, b1, b1, b1, b1, b1]) (fun _ => by kernel_rfl) (fun _ => ?_)
      obtain ⟨⟨r15, r16⟩, h17, hM⟩ := bind_some hM
      dsimp only at hM
      refine WL.callP [] [] (station_got_calls k a0 a1 a2 _ h17) (fun _ h => h) (by kernel_rfl) (by kernel_rfl) rfl ?_
      refine WL.run 6 [3, 3, 3, 3, 3, 3] [6, 7, 10, 11] (fun b18 => [(6, .pointer (some ⟨(b1 + 1), 0, none⟩)), (7, .pointer (some ⟨(b1 + 2), 0, none⟩)), (10, .pointer (some ⟨b18, 0, none⟩)), (11, Un2.v r16)]) (fun b18 => [(b1, .cells #[.int .u64 a2.Dst, .int .u64 a2.Src, .bool a2.Tag.Has, .int .i64 a2.Tag.Pri, .bool a2.Tag.Dei, .int .i64 a2.Tag.Vid, .int .i64 a2.Type_, .string a2.Body] 29 (0, 0)), ((b1 + 1), .cells #[.int .i64 0, .int .u32 0, .int .i64 0, .int .i64 0, .bool false, .string (⟨#[]⟩ : ByteArray)] 47 (0, 0)), ((b1 + 2), .cells #[.int .i64 0, .int .u64 0, .int .u32 0, .int .u64 0, .int .u32 0] 49 (0, 0)), (b18, .cells #[.int .i64 r15.Why, .int .u32 r15.Src, .int .i64 r15.U.Src, .int .i64 r15.U.Dst, .bool r15.U.NoSum, .string r15.U.Body] 47 (0, 0))]) (fun b18 => [b18, b18, b18, b18, b18, b18]) (fun b18 => by kernel_rfl) (fun b18 => ?_)
      refine WP.done ?_
      refine WP.keep [false, true, true, true] (by kernel_rfl : _ = [((b1 + 1), .cells #[.int .i64 0, .int .u32 0, .int .i64 0, .int .i64 0, .bool false, .string (⟨#[]⟩ : ByteArray)] 47 (0, 0)), ((b1 + 2), .cells #[.int .i64 0, .int .u64 0, .int .u32 0, .int .u64 0, .int .u32 0] 49 (0, 0)), (b18, .cells #[.int .i64 r15.Why, .int .u32 r15.Src, .int .i64 r15.U.Src, .int .i64 r15.U.Dst, .bool r15.U.NoSum, .string r15.U.Body] 47 (0, 0))]) ?_
      refine WP.seq ?_
      refine WP.run [] [6, 7, 10, 11, 12] (fun b19 => [(6, .pointer (some ⟨(b1 + 1), 0, none⟩)), (7, .pointer (some ⟨(b1 + 2), 0, none⟩)), (10, .pointer (some ⟨b18, 0, none⟩)), (11, Un2.v r16), (12, .pointer (some ⟨b19, 0, none⟩))]) (fun b19 => [((b1 + 1), .cells #[.int .i64 0, .int .u32 0, .int .i64 0, .int .i64 0, .bool false, .string (⟨#[]⟩ : ByteArray)] 47 (0, 0)), ((b1 + 2), .cells #[.int .i64 0, .int .u64 0, .int .u32 0, .int .u64 0, .int .u32 0] 49 (0, 0)), (b18, .cells #[.int .i64 r15.Why, .int .u32 r15.Src, .int .i64 r15.U.Src, .int .i64 r15.U.Dst, .bool r15.U.NoSum, .string r15.U.Body] 47 (0, 0)), (b19, .cells #[.int .i64 0] 80 (0, 0))]) (fun b19 => []) (fun b19 => by kernel_rfl) (fun b19 => ?_)
      refine WP.seqJoin (σ := Int) (fun st => station_Take.k2 r15 st = some r) (fun st => [(6, .pointer (some ⟨(b1 + 1), 0, none⟩)), (7, .pointer (some ⟨(b1 + 2), 0, none⟩)), (10, .pointer (some ⟨b18, 0, none⟩))]) (fun st => Sat w Z [((b1 + 1), .cells #[.int .i64 0, .int .u32 0, .int .i64 0, .int .i64 0, .bool false, .string (⟨#[]⟩ : ByteArray)] 47 (0, 0)), ((b1 + 2), .cells #[.int .i64 0, .int .u64 0, .int .u32 0, .int .u64 0, .int .u32 0] 49 (0, 0)), (b18, .cells #[.int .i64 r15.Why, .int .u32 r15.Src, .int .i64 r15.U.Src, .int .i64 r15.U.Dst, .bool r15.U.NoSum, .string r15.U.Body] 47 (0, 0))] [] Glob) (fun st hM => ?_) (fun K2 => ?_)
      ·
        obtain ⟨x29, rfl⟩ : ∃ y, y = st := ⟨st, rfl⟩
        replace hM : station_Take.k2 r15 x29 = some r := hM
        unfold station_Take.k2 at hM
        show WP _ _ _ _ _ [(6, .pointer (some ⟨(b1 + 1), 0, none⟩)), (7, .pointer (some ⟨(b1 + 2), 0, none⟩)), (10, .pointer (some ⟨b18, 0, none⟩))] (Sat w Z [((b1 + 1), .cells #[.int .i64 0, .int .u32 0, .int .i64 0, .int .i64 0, .bool false, .string (⟨#[]⟩ : ByteArray)] 47 (0, 0)), ((b1 + 2), .cells #[.int .i64 0, .int .u64 0, .int .u32 0, .int .u64 0, .int .u32 0] 49 (0, 0)), (b18, .cells #[.int .i64 r15.Why, .int .u32 r15.Src, .int .i64 r15.U.Src, .int .i64 r15.U.Dst, .bool r15.U.NoSum, .string r15.U.Body] 47 (0, 0))] [] Glob)
        refine WP.seq ?_
        refine WP.run [2, 2, 2, 2, 2, 2, 0, 0, 0, 0, 0, 0, 1, 1, 1, 1, 1] [6, 7] (fun _ => [(6, .pointer (some ⟨(b1 + 1), 0, none⟩)), (7, .pointer (some ⟨(b1 + 2), 0, none⟩))]) (fun _ => [((b1 + 1), .cells #[.int .i64 r15.Why, .int .u32 r15.Src, .int .i64 r15.U.Src, .int .i64 r15.U.Dst, .bool r15.U.NoSum, .string r15.U.Body] 47 (0, 0)), ((b1 + 2), .cells #[.int .i64 0, .int .u64 0, .int .u32 0, .int .u64 0, .int .u32 0] 49 (0, 0)), (b18, .cells #[.int .i64 r15.Why, .int .u32 r15.Src, .int .i64 r15.U.Src, .int .i64 r15.U.Dst, .bool r15.U.NoSum, .string r15.U.Body] 47 (0, 0))]) (fun _ => [(b1 + 2), (b1 + 2), (b1 + 2), (b1 + 2), (b1 + 2), (b1 + 1), (b1 + 1), (b1 + 1), (b1 + 1), (b1 + 1), (b1 + 1), b18, b18, b18, b18, b18, b18]) (fun _ => by kernel_rfl) (fun _ => ?_)
        refine WP.keep [true, true, false] (by kernel_rfl : _ = [((b1 + 1), .cells #[.int .i64 r15.Why, .int .u32 r15.Src, .int .i64 r15.U.Src, .int .i64 r15.U.Dst, .bool r15.U.NoSum, .string r15.U.Body] 47 (0, 0)), ((b1 + 2), .cells #[.int .i64 0, .int .u64 0, .int .u32 0, .int .u64 0, .int .u32 0] 49 (0, 0))]) ?_
        obtain rfl := Option.some.inj hM
        exact WP.ret [0, 0, 0, 0, 0, 0, 1, 1, 1, 1, 1] [(b1 + 1), (b1 + 1), (b1 + 1), (b1 + 1), (b1 + 1), (b1 + 1), (b1 + 2), (b1 + 2), (b1 + 2), (b1 + 2), (b1 + 2)] (.tuple #[.agg #[.int .i64 r15.Why, .int .u32 r15.Src, .int .i64 r15.U.Src, .int .i64 r15.U.Dst, .bool r15.U.NoSum, .string r15.U.Body], .agg #[.int .i64 0, .int .u64 0, .int .u32 0, .int .u64 0, .int .u32 0]]) (by kernel_rfl) (fun w' hw => ⟨rfl, hw.pick [] rfl⟩)
      ·
        refine WP.seq ?_
        refine WP.region ?_
        refine WL.run 2 [] [6, 7, 10, 12, 40, 41] (fun _ => [(6, .pointer (some ⟨(b1 + 1), 0, none⟩)), (7, .pointer (some ⟨(b1 + 2), 0, none⟩)), (10, .pointer (some ⟨b18, 0, none⟩)), (12, .pointer (some ⟨b19, 0, none⟩)), (40, Un2.v r16), (41, .iface 82 (.pointer (some ⟨b19, 0, none⟩)))]) (fun _ => [((b1 + 1), .cells #[.int .i64 0, .int .u32 0, .int .i64 0, .int .i64 0, .bool false, .string (⟨#[]⟩ : ByteArray)] 47 (0, 0)), ((b1 + 2), .cells #[.int .i64 0, .int .u64 0, .int .u32 0, .int .u64 0, .int .u32 0] 49 (0, 0)), (b18, .cells #[.int .i64 r15.Why, .int .u32 r15.Src, .int .i64 r15.U.Src, .int .i64 r15.U.Dst, .bool r15.U.NoSum, .string r15.U.Body] 47 (0, 0)), (b19, .cells #[.int .i64 0] 80 (0, 0))]) (fun _ => []) (fun _ => by kernel_rfl) (fun _ => ?_)
        rcases r16 with _ | ⟨q23, q24⟩
        · dsimp only at hM
          obtain ⟨r20, h21, hM⟩ := bind_some hM
          refine WL.callE (X := Unit) [] [] [false, false, false, true] (fun _ => _) (errors_As_3_calls b19 (station_why.mk 0) _ h21) rfl rfl (fun _ h => h) (by kernel_rfl) (by kernel_rfl) (fun _ => rfl) (fun _ => ?_)
          refine WP.done ?_
          refine WP.cond r20 rfl rfl (fun c22 => ?_) (fun c22 => ?_)
          · replace hM := cond_t hM c22
            refine WP.seq ?_
            refine WP.run [0, 1, 1, 1, 1, 1, 1, 2, 2, 2, 2, 2] [6, 7, 10] (fun _ => [(6, .pointer (some ⟨(b1 + 1), 0, none⟩)), (7, .pointer (some ⟨(b1 + 2), 0, none⟩)), (10, .pointer (some ⟨b18, 0, none⟩))]) (fun _ => [(b19, .cells #[.int .i64 0] 80 (0, 0)), ((b1 + 1), .cells #[.int .i64 0, .int .u32 0, .int .i64 0, .int .i64 0, .bool false, .string (⟨#[]⟩ : ByteArray)] 47 (0, 0)), ((b1 + 2), .cells #[.int .i64 0, .int .u64 0, .int .u32 0, .int .u64 0, .int .u32 0] 49 (0, 0)), (b18, .cells #[.int .i64 r15.Why, .int .u32 r15.Src, .int .i64 r15.U.Src, .int .i64 r15.U.Dst, .bool r15.U.NoSum, .string r15.U.Body] 47 (0, 0))]) (fun _ => [(b1 + 2), (b1 + 2), (b1 + 2), (b1 + 2), (b1 + 2), (b1 + 1), (b1 + 1), (b1 + 1), (b1 + 1), (b1 + 1), (b1 + 1), b19]) (fun _ => by kernel_rfl) (fun _ => ?_)
            refine WP.keep [false, true, true, true] (by kernel_rfl : _ = [((b1 + 1), .cells #[.int .i64 0, .int .u32 0, .int .i64 0, .int .i64 0, .bool false, .string (⟨#[]⟩ : ByteArray)] 47 (0, 0)), ((b1 + 2), .cells #[.int .i64 0, .int .u64 0, .int .u32 0, .int .u64 0, .int .u32 0] 49 (0, 0)), (b18, .cells #[.int .i64 r15.Why, .int .u32 r15.Src, .int .i64 r15.U.Src, .int .i64 r15.U.Dst, .bool r15.U.NoSum, .string r15.U.Body] 47 (0, 0))]) ?_
            obtain rfl := Option.some.inj hM
            exact WP.ret [0, 0, 0, 0, 0, 0, 1, 1, 1, 1, 1] [(b1 + 1), (b1 + 1), (b1 + 1), (b1 + 1), (b1 + 1), (b1 + 1), (b1 + 2), (b1 + 2), (b1 + 2), (b1 + 2), (b1 + 2)] (.tuple #[.agg #[.int .i64 0, .int .u32 0, .int .i64 0, .int .i64 0, .bool false, .string (⟨#[]⟩ : ByteArray)], .agg #[.int .i64 0, .int .u64 0, .int .u32 0, .int .u64 0, .int .u32 0]]) (by kernel_rfl) (fun w' hw => ⟨rfl, hw.pick [] rfl⟩)
          · replace hM := cond_f hM c22
            refine WP.skip ?_
            exact WP.sub [6, 7, 10] (by kernel_rfl) (WP.pick [1, 2, 3] (by kernel_rfl) (by kernel_rfl) (K2 0 hM))
        · dsimp only at hM
          obtain ⟨⟨r25, r26⟩, h27, hM⟩ := bind_some hM
          dsimp only at hM
          refine WL.callE (X := Unit) [] [] [false, false, false, true] (fun _ => _) (errors_As_4_calls b19 q23 q24 (station_why.mk 0) _ h27) rfl rfl (fun _ h => h) (by kernel_rfl) (by kernel_rfl) (fun _ => rfl) (fun _ => ?_)
          refine WP.done ?_
          refine WP.cond r25 rfl rfl (fun c28 => ?_) (fun c28 => ?_)
          · replace hM := cond_t hM c28
            refine WP.seq ?_
            refine WP.run [0, 1, 1, 1, 1, 1, 1, 2, 2, 2, 2, 2] [6, 7, 10] (fun _ => [(6, .pointer (some ⟨(b1 + 1), 0, none⟩)), (7, .pointer (some ⟨(b1 + 2), 0, none⟩)), (10, .pointer (some ⟨b18, 0, none⟩))]) (fun _ => [(b19, .cells #[.int .i64 r26.n] 80 (0, 0)), ((b1 + 1), .cells #[.int .i64 r26.n, .int .u32 0, .int .i64 0, .int .i64 0, .bool false, .string (⟨#[]⟩ : ByteArray)] 47 (0, 0)), ((b1 + 2), .cells #[.int .i64 0, .int .u64 0, .int .u32 0, .int .u64 0, .int .u32 0] 49 (0, 0)), (b18, .cells #[.int .i64 r15.Why, .int .u32 r15.Src, .int .i64 r15.U.Src, .int .i64 r15.U.Dst, .bool r15.U.NoSum, .string r15.U.Body] 47 (0, 0))]) (fun _ => [(b1 + 2), (b1 + 2), (b1 + 2), (b1 + 2), (b1 + 2), (b1 + 1), (b1 + 1), (b1 + 1), (b1 + 1), (b1 + 1), (b1 + 1), b19]) (fun _ => by kernel_rfl) (fun _ => ?_)
            refine WP.keep [false, true, true, true] (by kernel_rfl : _ = [((b1 + 1), .cells #[.int .i64 r26.n, .int .u32 0, .int .i64 0, .int .i64 0, .bool false, .string (⟨#[]⟩ : ByteArray)] 47 (0, 0)), ((b1 + 2), .cells #[.int .i64 0, .int .u64 0, .int .u32 0, .int .u64 0, .int .u32 0] 49 (0, 0)), (b18, .cells #[.int .i64 r15.Why, .int .u32 r15.Src, .int .i64 r15.U.Src, .int .i64 r15.U.Dst, .bool r15.U.NoSum, .string r15.U.Body] 47 (0, 0))]) ?_
            obtain rfl := Option.some.inj hM
            exact WP.ret [0, 0, 0, 0, 0, 0, 1, 1, 1, 1, 1] [(b1 + 1), (b1 + 1), (b1 + 1), (b1 + 1), (b1 + 1), (b1 + 1), (b1 + 2), (b1 + 2), (b1 + 2), (b1 + 2), (b1 + 2)] (.tuple #[.agg #[.int .i64 r26.n, .int .u32 0, .int .i64 0, .int .i64 0, .bool false, .string (⟨#[]⟩ : ByteArray)], .agg #[.int .i64 0, .int .u64 0, .int .u32 0, .int .u64 0, .int .u32 0]]) (by kernel_rfl) (fun w' hw => ⟨rfl, hw.pick [] rfl⟩)
          · replace hM := cond_f hM c28
            refine WP.skip ?_
            exact WP.sub [6, 7, 10] (by kernel_rfl) (WP.pick [1, 2, 3] (by kernel_rfl) (by kernel_rfl) (K2 r26.n hM))
  ·
    refine WL.split (fun b' => [(0, .int .u64 a0), (1, .int .u32 a1), (5, .pointer (some ⟨b1, 0, none⟩)), (6, .pointer (some ⟨(b1 + 1), 0, none⟩)), (7, .pointer (some ⟨(b1 + 2), 0, none⟩)), (16, .bool b')]) (a2.Type_ == 2054) (fun c2 => ?_) (fun c2 => ?_)
    · replace hM := cond_t hM c2
      refine WL.run 2 [0, 0, 0, 0, 0, 0, 0, 0] [0, 1, 5, 6, 7, 16, 17, 18] (fun _ => [(0, .int .u64 a0), (1, .int .u32 a1), (5, .pointer (some ⟨b1, 0, none⟩)), (6, .pointer (some ⟨(b1 + 1), 0, none⟩)), (7, .pointer (some ⟨(b1 + 2), 0, none⟩)), (16, .bool true), (17, .int .u64 a0), (18, .agg #[.int .u64 a2.Dst, .int .u64 a2.Src, .bool a2.Tag.Has, .int .i64 a2.Tag.Pri, .bool a2.Tag.Dei, .int .i64 a2.Tag.Vid, .int .i64 a2.Type_, .string a2.Body])]) (fun _ => [(b1, .cells #[.int .u64 a2.Dst, .int .u64 a2.Src, .bool a2.Tag.Has, .int .i64 a2.Tag.Pri, .bool a2.Tag.Dei, .int .i64 a2.Tag.Vid, .int .i64 a2.Type_, .string a2.Body] 29 (0, 0)), ((b1 + 1), .cells #[.int .i64 0, .int .u32 0, .int .i64 0, .int .i64 0, .bool false, .string (⟨#[]⟩ : ByteArray)] 47 (0, 0)), ((b1 + 2), .cells #[.int .i64 0, .int .u64 0, .int .u32 0, .int .u64 0, .int .u32 0] 49 (0, 0))]) (fun _ => [b1, b1, b1, b1, b1, b1, b1, b1]) (fun _ => by kernel_rfl) (fun _ => ?_)
      obtain ⟨r3, h4, hM⟩ := bind_some hM
      refine WL.callP [] [] (station_framed_calls a0 a2 _ h4) (fun _ h => h) (by kernel_rfl) (by kernel_rfl) rfl ?_
      rcases r3 with _ | ⟨q5, q6⟩
      · dsimp only at hM
        refine WL.run 2 [] [0, 1, 5, 6, 7, 21] (fun _ => [(0, .int .u64 a0), (1, .int .u32 a1), (5, .pointer (some ⟨b1, 0, none⟩)), (6, .pointer (some ⟨(b1 + 1), 0, none⟩)), (7, .pointer (some ⟨(b1 + 2), 0, none⟩)), (21, .bool true)]) (fun _ => [(b1, .cells #[.int .u64 a2.Dst, .int .u64 a2.Src, .bool a2.Tag.Has, .int .i64 a2.Tag.Pri, .bool a2.Tag.Dei, .int .i64 a2.Tag.Vid, .int .i64 a2.Type_, .string a2.Body] 29 (0, 0)), ((b1 + 1), .cells #[.int .i64 0, .int .u32 0, .int .i64 0, .int .i64 0, .bool false, .string (⟨#[]⟩ : ByteArray)] 47 (0, 0)), ((b1 + 2), .cells #[.int .i64 0, .int .u64 0, .int .u32 0, .int .u64 0, .int .u32 0] 49 (0, 0))]) (fun _ => []) (fun _ => by kernel_rfl) (fun _ => ?_)
        exact WL.sub [0, 1, 5, 6, 7, 21] (by kernel_rfl) (WL.pick [0, 1, 2] (by kernel_rfl) (by kernel_rfl) (K1 true hM))
      · dsimp only at hM
        refine WL.run 2 [] [0, 1, 5, 6, 7, 21] (fun _ => [(0, .int .u64 a0), (1, .int .u32 a1), (5, .pointer (some ⟨b1, 0, none⟩)), (6, .pointer (some ⟨(b1 + 1), 0, none⟩)), (7, .pointer (some ⟨(b1 + 2), 0, none⟩)), (21, .bool false)]) (fun _ => [(b1, .cells #[.int .u64 a2.Dst, .int .u64 a2.Src, .bool a2.Tag.Has, .int .i64 a2.Tag.Pri, .bool a2.Tag.Dei, .int .i64 a2.Tag.Vid, .int .i64 a2.Type_, .string a2.Body] 29 (0, 0)), ((b1 + 1), .cells #[.int .i64 0, .int .u32 0, .int .i64 0, .int .i64 0, .bool false, .string (⟨#[]⟩ : ByteArray)] 47 (0, 0)), ((b1 + 2), .cells #[.int .i64 0, .int .u64 0, .int .u32 0, .int .u64 0, .int .u32 0] 49 (0, 0))]) (fun _ => []) (fun _ => by kernel_rfl) (fun _ => ?_)
        exact WL.sub [0, 1, 5, 6, 7, 21] (by kernel_rfl) (WL.pick [0, 1, 2] (by kernel_rfl) (by kernel_rfl) (K1 false hM))
    · replace hM := cond_f hM c2
      refine WL.run 5 [] [0, 1, 5, 6, 7, 21] (fun _ => [(0, .int .u64 a0), (1, .int .u32 a1), (5, .pointer (some ⟨b1, 0, none⟩)), (6, .pointer (some ⟨(b1 + 1), 0, none⟩)), (7, .pointer (some ⟨(b1 + 2), 0, none⟩)), (21, .bool false)]) (fun _ => [(b1, .cells #[.int .u64 a2.Dst, .int .u64 a2.Src, .bool a2.Tag.Has, .int .i64 a2.Tag.Pri, .bool a2.Tag.Dei, .int .i64 a2.Tag.Vid, .int .i64 a2.Type_, .string a2.Body] 29 (0, 0)), ((b1 + 1), .cells #[.int .i64 0, .int .u32 0, .int .i64 0, .int .i64 0, .bool false, .string (⟨#[]⟩ : ByteArray)] 47 (0, 0)), ((b1 + 2), .cells #[.int .i64 0, .int .u64 0, .int .u32 0, .int .u64 0, .int .u32 0] 49 (0, 0))]) (fun _ => []) (fun _ => by kernel_rfl) (fun _ => ?_)
      exact WL.sub [0, 1, 5, 6, 7, 21] (by kernel_rfl) (WL.pick [0, 1, 2] (by kernel_rfl) (by kernel_rfl) (K1 false hM))

end Go.Proofs.YtbodofjnfmjbpaaGreatDoor

namespace Go.Proofs.YtbodofjnfmjbpaaGreatDoor
open Go Eng
set_option linter.unusedVariables false
set_option linter.unusedSimpArgs false

/-! ### gangway/gangwaylaw22.fixed: function 10 -/
def gangwaylaw22_fixed.k1 (r35 : Int) (r42 : Int) (r51 : Int) (r61 : Int) (x64 : Bool) : Option (Bool) :=
  some ((((x64 && (r35 == 3)) && (r42 == 2)) && (r51 == 1)) && (r61 == 220))

def gangwaylaw22_fixed.f (k : Nat) : Option (Bool) :=
  (gangwaylaw22_five.f).bind fun r6 =>
  (getL r6.length r6 0).bind fun t9 =>
  (tunnel_Wrap.f k 7 1 t9.Vid t9.Vni t9.Peers (api_Frame.mk 281474976710655 2 (api_Tag.mk true 0 false 5) 2048 (⟨#[104, 105]⟩ : ByteArray)) 3 1500).bind fun (r11, r12) =>
  (station_Take.f k 6 1 (api_Frame.mk 6 10 (api_Tag.mk false 0 false 0) 2048 r11)).bind fun (r14, r15) =>
  (gangwaylaw22_five.f).bind fun r19 =>
  (tunnel_Unwrap.f k r19 7 r14.U).bind fun (r22, r23, r24) =>
  (gangwaylaw22_five.f).bind fun r30 =>
  (tunnel_Unwrap.f k r30 9 r14.U).bind fun (r33, r34, r35) =>
  (tunnel_Unwrap.f k ([] : List api_Seg) 7 r14.U).bind fun (r40, r41, r42) =>
  (gangwaylaw22_five.f).bind fun r46 =>
  (tunnel_Unwrap.f k r46 7 (api_Udp.mk 0 0 false (⟨#[120]⟩ : ByteArray))).bind fun (r49, r50, r51) =>
  (gangwaylaw22_five.f).bind fun r55 =>
  (getL r55.length r55 0).bind fun t58 =>
  (tunnel_Wrap.f k 7 1 t58.Vid t58.Vni t58.Peers (api_Frame.mk 0 0 (api_Tag.mk false 0 false 0) 7 (⟨#[]⟩ : ByteArray)) 3 1500).bind fun (r60, r61) =>
  bif (((((r12 == 0) && ((r11.size : Int) == 52)) && (r14.Why == 0)) && (r22.Vid == 5)) && (r24 == 0)) then
    gangwaylaw22_fixed.k1 r35 r42 r51 r61 ((r23.Dst == 281474976710655) && ((r23.Src == 2) && (((r23.Tag.Has == false) && ((r23.Tag.Pri == 0) && ((r23.Tag.Dei == false) && ((r23.Tag.Vid == 0) && true)))) && ((r23.Type_ == 2048) && ((r23.Body == (⟨#[104, 105]⟩ : ByteArray)) && true)))))
  else
    gangwaylaw22_fixed.k1 r35 r42 r51 r61 false

set_option maxRecDepth 100000 in
theorem gangwaylaw22_fixed_calls (k : Nat) (r : Bool) (h : gangwaylaw22_fixed.f k = some r) : Pure Tryz.prog Glob 10 #[] (.bool r) := by
  intro w Z hS
  refine calls_of (args := []) (L := []) (N := 116) (S := Sat w Z [] [] Glob) Tryz.func10 rfl rfl (Nat.le_of_ble_eq_true rfl) rfl hS ?_
  have hM := h
  clear h hS
  unfold gangwaylaw22_fixed.f at hM
  refine WP.less (Φ' := [] ++ Glob) (fun _ h => h) ?_
  refine WP.seq ?_
  refine WP.run [] [0] (fun _ => [(0, .bool false)]) (fun _ => []) (fun _ => []) (fun _ => by kernel_rfl) (fun _ => ?_)
  refine WP.seq ?_
  refine WP.run [0, 0, 0, 0, 0, 0, 0, 0] [0, 1] (fun b1 => [(0, .bool false), (1, .pointer (some ⟨b1, 0, none⟩))]) (fun b1 => [(b1, .cells #[.int .u64 281474976710655, .int .u64 2, .bool true, .int .i64 0, .bool false, .int .i64 5, .int .i64 2048, .string (⟨#[104, 105]⟩ : ByteArray)] 29 (0, 0))]) (fun b1 => [b1, b1, b1, b1, b1, b1, b1, b1]) (fun b1 => by kernel_rfl) (fun b1 => ?_)
  refine WP.seq ?_
  obtain ⟨r6, h7, hM⟩ := bind_some hM
  obtain ⟨t9, h10, hM⟩ := bind_some hM
  obtain ⟨⟨r11, r12⟩, h13, hM⟩ := bind_some hM
  dsimp only at hM
  refine WP.sub [0, 1] (L' := [(0, .bool false), (1, .pointer (some ⟨b1, 0, none⟩))]) (by kernel_rfl) ?_
  refine WP.mixed (X := (SkL (SkL Unit))) 9 [.ex [] (fun tt => slcV (tt 0) r6.length) (fun tt => [Row 3 api_Seg.encS api_Seg.inK (tt 0) r6]), .valX [0] (fun tt => ptrV (tt 0) (Int.toNat 0 * 3 + 0)), .valX [0] (fun tt => .agg #[.int .i64 t9.Vid, .int .i64 t9.Vni, slcV ((tt 0).s (Int.toNat 0)) t9.Peers.length]), .val (.agg #[.int .u64 281474976710655, .int .u64 2, .bool true, .int .i64 0, .bool false, .int .i64 5, .int .i64 2048, .string (⟨#[104, 105]⟩ : ByteArray)]), .valX [0] (fun tt => .tuple #[.string r11, .int .i64 r12]), .val (.tuple #[.string r11, .int .i64 r12]), .val (.string r11), .val (.int .i64 r12), .val (.string r11)] [(b1, .cells #[.int .u64 281474976710655, .int .u64 2, .bool true, .int .i64 0, .bool false, .int .i64 5, .int .i64 2048, .string (⟨#[104, 105]⟩ : ByteArray)] 29 (0, 0))] [] (by kernel_rfl) (by kernel_rfl) (by kernel_rfl) (by kernel_rfl) (Heads.ex (fun x x' h => ⟨(by first | rfl | simp only [h 0 (List.mem_cons_self ..)]), (by first | rfl | simp only [h 0 (List.mem_cons_self ..)])⟩) (fun tt Ψ hΨ => OpX.callX (F0 := []) (fun u => u) [] [] (app2 no_facts (fun _ h => (List.mem_append_right _ (List.mem_append_right _ h)))) (fun _ h => h) (gangwaylaw22_five_calls _ h7) (fun x => ⟨x, rfl⟩) (fun _ => by kernel_rfl) (fun _ => by kernel_rfl) (fun _ => by kernel_rfl)) (Heads.valX (fun x x' h => (by first | rfl | simp only [h 0 (List.mem_of_getElem? (i := 0) rfl)])) (fun tt Ψ hΨ => OpV.valF (φ := Row 3 api_Seg.encS api_Seg.inK (tt 0) r6) (List.mem_append_left _ (hΨ 0 (List.mem_of_getElem? (i := 0) rfl) _ (List.mem_of_getElem? (i := 0) rfl))) (fun w hR => run_indexRowF (A := (tt 0)) (xs := r6) (i := 0) (k := .i64) (e := 35) (m := 3) (by kernel_rfl) (by kernel_rfl) h10 (by kernel_rfl) (by kernel_rfl) hR) (by kernel_rfl)) (Heads.valX (fun x x' h => (by first | rfl | simp only [h 0 (List.mem_of_getElem? (i := 0) rfl)])) (fun tt Ψ hΨ => OpV.valF (φ := Row 3 api_Seg.encS api_Seg.inK (tt 0) r6) (List.mem_append_left _ (hΨ 0 (List.mem_of_getElem? (i := 0) rfl) _ (List.mem_of_getElem? (i := 0) rfl))) (fun w hR => run_loadRowFA (A := (tt 0)) (xs := r6) (i := 0) (j := 0) (n := 3) (vs := [.int .i64 t9.Vid, .int .i64 t9.Vni, slcV ((tt 0).s (Int.toNat 0)) t9.Peers.length]) h10 (fun _ => by kernel_rfl) (by kernel_rfl) (by kernel_rfl) (by kernel_rfl) rfl hR) (by kernel_rfl)) (Heads.val (fun tt Ψ => OpV.run [0, 0, 0, 0, 0, 0, 0, 0] [b1, b1, b1, b1, b1, b1, b1, b1] (by kernel_rfl) (fun _ => by kernel_rfl)) (Heads.valX (fun x x' h => (by first | rfl | simp only [h 0 (List.mem_of_getElem? (i := 0) rfl)])) (fun tt Ψ hΨ => OpV.know (φ := Row 1 (pl (encI .u32)) noK ((tt 0).s (Int.toNat 0)) t9.Peers) [Row 3 api_Seg.encS api_Seg.inK (tt 0) r6] (one_fact (List.mem_append_left _ (hΨ 0 (List.mem_of_getElem? (i := 0) rfl) _ (List.mem_of_getElem? (i := 0) rfl)))) (fun w hψ => ((hψ _ (List.mem_singleton.2 rfl)).inner _ _ (getL_parts h10).2)) (OpV.callF [] [] (app2 (mem2 (List.mem_cons_self ..) no_facts) (fun _ h => (List.mem_cons_of_mem _ (List.mem_append_right _ (List.mem_append_right _ h))))) (tunnel_Wrap_calls k ((tt 0).s (Int.toNat 0)) 7 1 t9.Vid t9.Vni t9.Peers (api_Frame.mk 281474976710655 2 (api_Tag.mk true 0 false 5) 2048 (⟨#[104, 105]⟩ : ByteArray)) 3 1500 _ h13)  (fun _ => by kernel_rfl))) (Heads.val (fun tt Ψ => OpV.run [] [] (by kernel_rfl) (fun _ => by kernel_rfl)) (Heads.val (fun tt Ψ => OpV.run [] [] (by kernel_rfl) (fun _ => by kernel_rfl)) (Heads.val (fun tt Ψ => OpV.run [] [] (by kernel_rfl) (fun _ => by kernel_rfl)) (Heads.val (fun tt Ψ => OpV.run [] [] (by kernel_rfl) (fun _ => by kernel_rfl)) Heads.nil))))))))) (fun s5 tt => [(23, slcV (tt 0) r6.length), (24, ptrV (tt 0) (Int.toNat 0 * 3 + 0)), (25, .agg #[.int .i64 t9.Vid, .int .i64 t9.Vni, slcV ((tt 0).s (Int.toNat 0)) t9.Peers.length]), (26, .agg #[.int .u64 281474976710655, .int .u64 2, .bool true, .int .i64 0, .bool false, .int .i64 5, .int .i64 2048, .string (⟨#[104, 105]⟩ : ByteArray)]), (27, .tuple #[.string r11, .int .i64 r12]), (22, .tuple #[.string r11, .int .i64 r12]), (28, .string r11), (29, .int .i64 r12), (2, .string r11), (0, .bool false), (1, .pointer (some ⟨b1, 0, none⟩))]) (fun s5 tt => [(b1, .cells #[.int .u64 281474976710655, .int .u64 2, .bool true, .int .i64 0, .bool false, .int .i64 5, .int .i64 2048, .string (⟨#[104, 105]⟩ : ByteArray)] 29 (0, 0))]) (fun tt => ([Row 3 api_Seg.encS api_Seg.inK (tt 0) r6] ++ []) ++ Glob) (fun _ _ => by kernel_rfl) (fun _ _ => by kernel_rfl) (fun _ => by kernel_rfl) (fun s5 tt => ?_)
  generalize (tt 0) = A8
  refine WL.run 1 [] [0, 2, 3] (fun _ => [(0, .bool false), (2, .string r11), (3, .int .i64 r12)]) (fun _ => [(b1, .cells #[.int .u64 281474976710655, .int .u64 2, .bool true, .int .i64 0, .bool false, .int .i64 5, .int .i64 2048, .string (⟨#[104, 105]⟩ : ByteArray)] 29 (0, 0))]) (fun _ => []) (fun _ => by kernel_rfl) (fun _ => ?_)
  refine WP.done ?_
  refine WP.keep [false] (by kernel_rfl : _ = []) ?_
  refine WP.seq ?_
  refine WP.region ?_
  refine WL.run 2 [] [0, 2, 3, 32] (fun _ => [(0, .bool false), (2, .string r11), (3, .int .i64 r12), (32, .agg #[.int .u64 6, .int .u64 10, .bool false, .int .i64 0, .bool false, .int .i64 0, .int .i64 2048, .string r11])]) (fun _ => []) (fun _ => []) (fun _ => by kernel_rfl) (fun _ => ?_)
  obtain ⟨⟨r14, r15⟩, h16, hM⟩ := bind_some hM
  dsimp only at hM
  refine WL.callP [] [] (station_Take_calls k 6 1 (api_Frame.mk 6 10 (api_Tag.mk false 0 false 0) 2048 r11) _ h16) (fun _ h => List.mem_append_right _ h) (by kernel_rfl) (by kernel_rfl) rfl ?_
  refine WL.run 7 [0, 0, 0, 0, 0, 0, 1, 1, 1, 1, 1] [0, 2, 3, 4] (fun b17 => [(0, .bool false), (2, .string r11), (3, .int .i64 r12), (4, .pointer (some ⟨b17, 0, none⟩))]) (fun b17 => [(b17, .cells #[.int .i64 r14.Why, .int .u32 r14.Src, .int .i64 r14.U.Src, .int .i64 r14.U.Dst, .bool r14.U.NoSum, .string r14.U.Body] 47 (0, 0)), ((b17 + 1), .cells #[.int .i64 r15.Op, .int .u64 r15.SMac, .int .u32 r15.SIp, .int .u64 r15.TMac, .int .u32 r15.TIp] 49 (0, 0))]) (fun b17 => [(b17 + 1), (b17 + 1), (b17 + 1), (b17 + 1), (b17 + 1), b17, b17, b17, b17, b17, b17]) (fun b17 => by kernel_rfl) (fun b17 => ?_)
  refine WP.done ?_
  refine WP.keep [true, false] (by kernel_rfl : _ = [(b17, .cells #[.int .i64 r14.Why, .int .u32 r14.Src, .int .i64 r14.U.Src, .int .i64 r14.U.Dst, .bool r14.U.NoSum, .string r14.U.Body] 47 (0, 0))]) ?_
  refine WP.seq ?_
  obtain ⟨r19, h20, hM⟩ := bind_some hM
  obtain ⟨⟨r22, r23, r24⟩, h25, hM⟩ := bind_some hM
  dsimp only at hM
  refine WP.sub [0, 2, 3, 4] (L' := [(0, .bool false), (2, .string r11), (3, .int .i64 r12), (4, .pointer (some ⟨b17, 0, none⟩))]) (by kernel_rfl) ?_
  refine WP.mixed (X := ((SkL (SkL Unit)) × (SkL Unit))) 12 [.ex [] (fun tt => slcV (tt 0).1 r19.length) (fun tt => [Row 3 api_Seg.encS api_Seg.inK (tt 0).1 r19]), .val (.pointer (some ⟨b17, 2, none⟩)), .val (.agg #[.int .i64 r14.U.Src, .int .i64 r14.U.Dst, .bool r14.U.NoSum, .string r14.U.Body]), .ex [0] (fun tt => .tuple #[.agg #[.int .i64 r22.Vid, .int .i64 r22.Vni, slcV (tt 3).2 r22.Peers.length], .agg #[.int .u64 r23.Dst, .int .u64 r23.Src, .bool r23.Tag.Has, .int .i64 r23.Tag.Pri, .bool r23.Tag.Dei, .int .i64 r23.Tag.Vid, .int .i64 r23.Type_, .string r23.Body], .int .i64 r24]) (fun tt => [Row 1 (pl (encI .u32)) noK (tt 3).2 r22.Peers]), .valX [3] (fun tt => .tuple #[.agg #[.int .i64 r22.Vid, .int .i64 r22.Vni, slcV (tt 3).2 r22.Peers.length], .agg #[.int .u64 r23.Dst, .int .u64 r23.Src, .bool r23.Tag.Has, .int .i64 r23.Tag.Pri, .bool r23.Tag.Dei, .int .i64 r23.Tag.Vid, .int .i64 r23.Type_, .string r23.Body], .int .i64 r24]), .valX [3] (fun tt => .agg #[.int .i64 r22.Vid, .int .i64 r22.Vni, slcV (tt 3).2 r22.Peers.length]), .val (.agg #[.int .u64 r23.Dst, .int .u64 r23.Src, .bool r23.Tag.Has, .int .i64 r23.Tag.Pri, .bool r23.Tag.Dei, .int .i64 r23.Tag.Vid, .int .i64 r23.Type_, .string r23.Body]), .val (.int .i64 r24), .alloc (.cells #[.int .i64 0, .int .i64 0, .slice none 0 0] 35 (0, 0)) (fun b => .pointer (some ⟨b, 0, none⟩)), .alloc (.cells #[.int .u64 0, .int .u64 0, .bool false, .int .i64 0, .bool false, .int .i64 0, .int .i64 0, .string (⟨#[]⟩ : ByteArray)] 29 (0, 0)) (fun b => .pointer (some ⟨b, 0, none⟩)), .fill 8 [3] (fun tt => .cells #[.int .i64 r22.Vid, .int .i64 r22.Vni, slcV (tt 3).2 r22.Peers.length] 35 (0, 0)), .fill 9 [] (fun tt => .cells #[.int .u64 r23.Dst, .int .u64 r23.Src, .bool r23.Tag.Has, .int .i64 r23.Tag.Pri, .bool r23.Tag.Dei, .int .i64 r23.Tag.Vid, .int .i64 r23.Type_, .string r23.Body] 29 (0, 0))] [(b17, .cells #[.int .i64 r14.Why, .int .u32 r14.Src, .int .i64 r14.U.Src, .int .i64 r14.U.Dst, .bool r14.U.NoSum, .string r14.U.Body] 47 (0, 0))] [] (by kernel_rfl) (by kernel_rfl) (by kernel_rfl) (by kernel_rfl) (Heads.ex (fun x x' h => ⟨(by first | rfl | simp only [h 0 (List.mem_cons_self ..)]), (by first | rfl | simp only [h 0 (List.mem_cons_self ..)])⟩) (fun tt Ψ hΨ => OpX.callX (F0 := []) (fun u => u.1) [] [] (app2 no_facts (fun _ h => (List.mem_append_right _ (List.mem_append_right _ h)))) (fun _ h => h) (gangwaylaw22_five_calls _ h20) (fun x => ⟨(x, default), rfl⟩) (fun _ => by kernel_rfl) (fun _ => by kernel_rfl) (fun _ => by kernel_rfl)) (Heads.val (fun tt Ψ => OpV.run [] [] (by kernel_rfl) (fun _ => by kernel_rfl)) (Heads.val (fun tt Ψ => OpV.run [0, 0, 0, 0] [b17, b17, b17, b17] (by kernel_rfl) (fun _ => by kernel_rfl)) (Heads.ex (fun x x' h => ⟨(by first | rfl | simp only [h 3 (List.mem_cons_self ..), h 0 (List.mem_of_getElem? (i := 1) rfl)]), (by first | rfl | simp only [h 3 (List.mem_cons_self ..), h 0 (List.mem_of_getElem? (i := 1) rfl)])⟩) (fun tt Ψ hΨ => OpX.callX (F0 := [Row 3 api_Seg.encS api_Seg.inK (tt 0).1 r19]) (fun u => u.2) [] [] (app2 (mem2 (List.mem_append_left _ (hΨ 0 (List.mem_of_getElem? (i := 0) rfl) _ (List.mem_of_getElem? (i := 0) rfl))) no_facts) (fun _ h => (List.mem_append_right _ (List.mem_append_right _ h)))) (fun _ h => h) (tunnel_Unwrap_calls k (tt 0).1 r19 7 r14.U _ h25) (fun x => ⟨(default, x), rfl⟩) (fun _ => by kernel_rfl) (fun _ => by kernel_rfl) (fun _ => by kernel_rfl)) (Heads.valX (fun x x' h => (by first | rfl | simp only [h 3 (List.mem_of_getElem? (i := 0) rfl)])) (fun tt Ψ hΨ => OpV.run [] [] (by kernel_rfl) (fun _ => by kernel_rfl)) (Heads.valX (fun x x' h => (by first | rfl | simp only [h 3 (List.mem_of_getElem? (i := 0) rfl)])) (fun tt Ψ hΨ => OpV.run [] [] (by kernel_rfl) (fun _ => by kernel_rfl)) (Heads.val (fun tt Ψ => OpV.run [] [] (by kernel_rfl) (fun _ => by kernel_rfl)) (Heads.val (fun tt Ψ => OpV.run [] [] (by kernel_rfl) (fun _ => by kernel_rfl)) (Heads.alloc (fun _ => by kernel_rfl) (fun _ _ => by kernel_rfl) (Heads.alloc (fun _ => by kernel_rfl) (fun _ _ => by kernel_rfl) (Heads.fill (fun x x' h => (by first | rfl | simp only [h 3 (List.mem_of_getElem? (i := 0) rfl)])) 6 (fun b => .pointer (some ⟨b, 0, none⟩)) (.cells #[.int .i64 0, .int .i64 0, .slice none 0 0] 35 (0, 0)) rfl rfl (fun tt Ψ => OpF.run [1, 1, 1] (fun b => [b, b, b]) (fun _ => by kernel_rfl) (fun _ _ _ => by kernel_rfl) (fun _ _ _ => by kernel_rfl)) (Heads.fill (fun x x' h => rfl) 7 (fun b => .pointer (some ⟨b, 0, none⟩)) (.cells #[.int .u64 0, .int .u64 0, .bool false, .int .i64 0, .bool false, .int .i64 0, .int .i64 0, .string (⟨#[]⟩ : ByteArray)] 29 (0, 0)) rfl rfl (fun tt Ψ => OpF.run [1, 1, 1, 1, 1, 1, 1, 1] (fun b => [b, b, b, b, b, b, b, b]) (fun _ => by kernel_rfl) (fun _ _ _ => by kernel_rfl) (fun _ _ _ => by kernel_rfl)) Heads.nil)))))))))))) (fun s18 tt => [(37, slcV (tt 0).1 r19.length), (38, .pointer (some ⟨b17, 2, none⟩)), (39, .agg #[.int .i64 r14.U.Src, .int .i64 r14.U.Dst, .bool r14.U.NoSum, .string r14.U.Body]), (40, .tuple #[.agg #[.int .i64 r22.Vid, .int .i64 r22.Vni, slcV (tt 3).2 r22.Peers.length], .agg #[.int .u64 r23.Dst, .int .u64 r23.Src, .bool r23.Tag.Has, .int .i64 r23.Tag.Pri, .bool r23.Tag.Dei, .int .i64 r23.Tag.Vid, .int .i64 r23.Type_, .string r23.Body], .int .i64 r24]), (36, .tuple #[.agg #[.int .i64 r22.Vid, .int .i64 r22.Vni, slcV (tt 3).2 r22.Peers.length], .agg #[.int .u64 r23.Dst, .int .u64 r23.Src, .bool r23.Tag.Has, .int .i64 r23.Tag.Pri, .bool r23.Tag.Dei, .int .i64 r23.Tag.Vid, .int .i64 r23.Type_, .string r23.Body], .int .i64 r24]), (41, .agg #[.int .i64 r22.Vid, .int .i64 r22.Vni, slcV (tt 3).2 r22.Peers.length]), (42, .agg #[.int .u64 r23.Dst, .int .u64 r23.Src, .bool r23.Tag.Has, .int .i64 r23.Tag.Pri, .bool r23.Tag.Dei, .int .i64 r23.Tag.Vid, .int .i64 r23.Type_, .string r23.Body]), (43, .int .i64 r24), (6, .pointer (some ⟨(s18 8), 0, none⟩)), (7, .pointer (some ⟨(s18 9), 0, none⟩)), (0, .bool false), (2, .string r11), (3, .int .i64 r12), (4, .pointer (some ⟨b17, 0, none⟩))]) (fun s18 tt => [(b17, .cells #[.int .i64 r14.Why, .int .u32 r14.Src, .int .i64 r14.U.Src, .int .i64 r14.U.Dst, .bool r14.U.NoSum, .string r14.U.Body] 47 (0, 0)), ((s18 8), .cells #[.int .i64 r22.Vid, .int .i64 r22.Vni, slcV (tt 3).2 r22.Peers.length] 35 (0, 0)), ((s18 9), .cells #[.int .u64 r23.Dst, .int .u64 r23.Src, .bool r23.Tag.Has, .int .i64 r23.Tag.Pri, .bool r23.Tag.Dei, .int .i64 r23.Tag.Vid, .int .i64 r23.Type_, .string r23.Body] 29 (0, 0))]) (fun tt => ([Row 3 api_Seg.encS api_Seg.inK (tt 0).1 r19, Row 1 (pl (encI .u32)) noK (tt 3).2 r22.Peers] ++ [Row 3 api_Seg.encS api_Seg.inK A8 r6]) ++ Glob) (fun _ _ => by kernel_rfl) (fun _ _ => by kernel_rfl) (fun _ => by kernel_rfl) (fun s18 tt => ?_)
  generalize s18 8 = b27
  generalize s18 9 = b28
  generalize (tt 0).1 = A21
  generalize (tt 3).2 = A26
  refine WL.run 1 [] [0, 2, 3, 4, 6, 7, 8] (fun _ => [(0, .bool false), (2, .string r11), (3, .int .i64 r12), (4, .pointer (some ⟨b17, 0, none⟩)), (6, .pointer (some ⟨b27, 0, none⟩)), (7, .pointer (some ⟨b28, 0, none⟩)), (8, .int .i64 r24)]) (fun _ => [(b17, .cells #[.int .i64 r14.Why, .int .u32 r14.Src, .int .i64 r14.U.Src, .int .i64 r14.U.Dst, .bool r14.U.NoSum, .string r14.U.Body] 47 (0, 0)), (b27, .cells #[.int .i64 r22.Vid, .int .i64 r22.Vni, slcV A26 r22.Peers.length] 35 (0, 0)), (b28, .cells #[.int .u64 r23.Dst, .int .u64 r23.Src, .bool r23.Tag.Has, .int .i64 r23.Tag.Pri, .bool r23.Tag.Dei, .int .i64 r23.Tag.Vid, .int .i64 r23.Type_, .string r23.Body] 29 (0, 0))]) (fun _ => []) (fun _ => by kernel_rfl) (fun _ => ?_)
  refine WP.done ?_
  refine WP.seq ?_
  obtain ⟨r30, h31, hM⟩ := bind_some hM
  obtain ⟨⟨r33, r34, r35⟩, h36, hM⟩ := bind_some hM
  dsimp only at hM
  refine WP.sub [0, 2, 3, 4, 6, 7, 8] (L' := [(0, .bool false), (2, .string r11), (3, .int .i64 r12), (4, .pointer (some ⟨b17, 0, none⟩)), (6, .pointer (some ⟨b27, 0, none⟩)), (7, .pointer (some ⟨b28, 0, none⟩)), (8, .int .i64 r24)]) (by kernel_rfl) ?_
  refine WP.mixed (X := ((SkL (SkL Unit)) × (SkL Unit))) 12 [.ex [] (fun tt => slcV (tt 0).1 r30.length) (fun tt => [Row 3 api_Seg.encS api_Seg.inK (tt 0).1 r30]), .val (.pointer (some ⟨b17, 2, none⟩)), .val (.agg #[.int .i64 r14.U.Src, .int .i64 r14.U.Dst, .bool r14.U.NoSum, .string r14.U.Body]), .ex [0] (fun tt => .tuple #[.agg #[.int .i64 r33.Vid, .int .i64 r33.Vni, slcV (tt 3).2 r33.Peers.length], .agg #[.int .u64 r34.Dst, .int .u64 r34.Src, .bool r34.Tag.Has, .int .i64 r34.Tag.Pri, .bool r34.Tag.Dei, .int .i64 r34.Tag.Vid, .int .i64 r34.Type_, .string r34.Body], .int .i64 r35]) (fun tt => [Row 1 (pl (encI .u32)) noK (tt 3).2 r33.Peers]), .valX [3] (fun tt => .tuple #[.agg #[.int .i64 r33.Vid, .int .i64 r33.Vni, slcV (tt 3).2 r33.Peers.length], .agg #[.int .u64 r34.Dst, .int .u64 r34.Src, .bool r34.Tag.Has, .int .i64 r34.Tag.Pri, .bool r34.Tag.Dei, .int .i64 r34.Tag.Vid, .int .i64 r34.Type_, .string r34.Body], .int .i64 r35]), .valX [3] (fun tt => .agg #[.int .i64 r33.Vid, .int .i64 r33.Vni, slcV (tt 3).2 r33.Peers.length]), .val (.agg #[.int .u64 r34.Dst, .int .u64 r34.Src, .bool r34.Tag.Has, .int .i64 r34.Tag.Pri, .bool r34.Tag.Dei, .int .i64 r34.Tag.Vid, .int .i64 r34.Type_, .string r34.Body]), .val (.int .i64 r35), .alloc (.cells #[.int .i64 0, .int .i64 0, .slice none 0 0] 35 (0, 0)) (fun b => .pointer (some ⟨b, 0, none⟩)), .alloc (.cells #[.int .u64 0, .int .u64 0, .bool false, .int .i64 0, .bool false, .int .i64 0, .int .i64 0, .string (⟨#[]⟩ : ByteArray)] 29 (0, 0)) (fun b => .pointer (some ⟨b, 0, none⟩)), .fill 8 [3] (fun tt => .cells #[.int .i64 r33.Vid, .int .i64 r33.Vni, slcV (tt 3).2 r33.Peers.length] 35 (0, 0)), .fill 9 [] (fun tt => .cells #[.int .u64 r34.Dst, .int .u64 r34.Src, .bool r34.Tag.Has, .int .i64 r34.Tag.Pri, .bool r34.Tag.Dei, .int .i64 r34.Tag.Vid, .int .i64 r34.Type_, .string r34.Body] 29 (0, 0))] [(b17, .cells #[.int .i64 r14.Why, .int .u32 r14.Src, .int .i64 r14.U.Src, .int .i64 r14.U.Dst, .bool r14.U.NoSum, .string r14.U.Body] 47 (0, 0)), (b27, .cells #[.int .i64 r22.Vid, .int .i64 r22.Vni, slcV A26 r22.Peers.length] 35 (0, 0)), (b28, .cells #[.int .u64 r23.Dst, .int .u64 r23.Src, .bool r23.Tag.Has, .int .i64 r23.Tag.Pri, .bool r23.Tag.Dei, .int .i64 r23.Tag.Vid, .int .i64 r23.Type_, .string r23.Body] 29 (0, 0))] [] (by kernel_rfl) (by kernel_rfl) (by kernel_rfl) (by kernel_rfl) (Heads.ex (fun x x' h => ⟨(by first | rfl | simp only [h 0 (List.mem_cons_self ..)]), (by first | rfl | simp only [h 0 (List.mem_cons_self ..)])⟩) (fun tt Ψ hΨ => OpX.callX (F0 := []) (fun u => u.1) [] [] (app2 no_facts (fun _ h => (List.mem_append_right _ (List.mem_append_right _ h)))) (fun _ h => h) (gangwaylaw22_five_calls _ h31) (fun x => ⟨(x, default), rfl⟩) (fun _ => by kernel_rfl) (fun _ => by kernel_rfl) (fun _ => by kernel_rfl)) (Heads.val (fun tt Ψ => OpV.run [] [] (by kernel_rfl) (fun _ => by kernel_rfl)) (Heads.val (fun tt Ψ => OpV.run [0, 0, 0, 0] [b17, b17, b17, b17] (by kernel_rfl) (fun _ => by kernel_rfl)) (Heads.ex (fun x x' h => ⟨(by first | rfl | simp only [h 3 (List.mem_cons_self ..), h 0 (List.mem_of_getElem? (i := 1) rfl)]), (by first | rfl | simp only [h 3 (List.mem_cons_self ..), h 0 (List.mem_of_getElem? (i := 1) rfl)])⟩) (fun tt Ψ hΨ => OpX.callX (F0 := [Row 3 api_Seg.encS api_Seg.inK (tt 0).1 r30]) (fun u => u.2) [] [] (app2 (mem2 (List.mem_append_left _ (hΨ 0 (List.mem_of_getElem? (i := 0) rfl) _ (List.mem_of_getElem? (i := 0) rfl))) no_facts) (fun _ h => (List.mem_append_right _ (List.mem_append_right _ h)))) (fun _ h => h) (tunnel_Unwrap_calls k (tt 0).1 r30 9 r14.U _ h36) (fun x => ⟨(default, x), rfl⟩) (fun _ => by kernel_rfl) (fun _ => by kernel_rfl) (fun _ => by kernel_rfl)) (Heads.valX (fun x x' h => (by first | rfl | simp only [h 3 (List.mem_of_getElem? (i := 0) rfl)])) (fun tt Ψ hΨ => OpV.run [] [] (by kernel_rfl) (fun _ => by kernel_rfl)) (Heads.valX (fun x x' h => (by first | rfl | simp only [h 3 (List.mem_of_getElem? (i := 0) rfl)])) (fun tt Ψ hΨ => OpV.run [] [] (by kernel_rfl) (fun _ => by kernel_rfl)) (Heads.val (fun tt Ψ => OpV.run [] [] (by kernel_rfl) (fun _ => by kernel_rfl)) (Heads.val (fun tt Ψ => OpV.run [] [] (by kernel_rfl) (fun _ => by kernel_rfl)) (Heads.alloc (fun _ => by kernel_rfl) (fun _ _ => by kernel_rfl) (Heads.alloc (fun _ => by kernel_rfl) (fun _ _ => by kernel_rfl) (Heads.fill (fun x x' h => (by first | rfl | simp only [h 3 (List.mem_of_getElem? (i := 0) rfl)])) 9 (fun b => .pointer (some ⟨b, 0, none⟩)) (.cells #[.int .i64 0, .int .i64 0, .slice none 0 0] 35 (0, 0)) rfl rfl (fun tt Ψ => OpF.run [3, 3, 3] (fun b => [b, b, b]) (fun _ => by kernel_rfl) (fun _ _ _ => by kernel_rfl) (fun _ _ _ => by kernel_rfl)) (Heads.fill (fun x x' h => rfl) 10 (fun b => .pointer (some ⟨b, 0, none⟩)) (.cells #[.int .u64 0, .int .u64 0, .bool false, .int .i64 0, .bool false, .int .i64 0, .int .i64 0, .string (⟨#[]⟩ : ByteArray)] 29 (0, 0)) rfl rfl (fun tt Ψ => OpF.run [3, 3, 3, 3, 3, 3, 3, 3] (fun b => [b, b, b, b, b, b, b, b]) (fun _ => by kernel_rfl) (fun _ _ _ => by kernel_rfl) (fun _ _ _ => by kernel_rfl)) Heads.nil)))))))))))) (fun s29 tt => [(45, slcV (tt 0).1 r30.length), (46, .pointer (some ⟨b17, 2, none⟩)), (47, .agg #[.int .i64 r14.U.Src, .int .i64 r14.U.Dst, .bool r14.U.NoSum, .string r14.U.Body]), (48, .tuple #[.agg #[.int .i64 r33.Vid, .int .i64 r33.Vni, slcV (tt 3).2 r33.Peers.length], .agg #[.int .u64 r34.Dst, .int .u64 r34.Src, .bool r34.Tag.Has, .int .i64 r34.Tag.Pri, .bool r34.Tag.Dei, .int .i64 r34.Tag.Vid, .int .i64 r34.Type_, .string r34.Body], .int .i64 r35]), (44, .tuple #[.agg #[.int .i64 r33.Vid, .int .i64 r33.Vni, slcV (tt 3).2 r33.Peers.length], .agg #[.int .u64 r34.Dst, .int .u64 r34.Src, .bool r34.Tag.Has, .int .i64 r34.Tag.Pri, .bool r34.Tag.Dei, .int .i64 r34.Tag.Vid, .int .i64 r34.Type_, .string r34.Body], .int .i64 r35]), (49, .agg #[.int .i64 r33.Vid, .int .i64 r33.Vni, slcV (tt 3).2 r33.Peers.length]), (50, .agg #[.int .u64 r34.Dst, .int .u64 r34.Src, .bool r34.Tag.Has, .int .i64 r34.Tag.Pri, .bool r34.Tag.Dei, .int .i64 r34.Tag.Vid, .int .i64 r34.Type_, .string r34.Body]), (51, .int .i64 r35), (9, .pointer (some ⟨(s29 8), 0, none⟩)), (10, .pointer (some ⟨(s29 9), 0, none⟩)), (0, .bool false), (2, .string r11), (3, .int .i64 r12), (4, .pointer (some ⟨b17, 0, none⟩)), (6, .pointer (some ⟨b27, 0, none⟩)), (7, .pointer (some ⟨b28, 0, none⟩)), (8, .int .i64 r24)]) (fun s29 tt => [(b17, .cells #[.int .i64 r14.Why, .int .u32 r14.Src, .int .i64 r14.U.Src, .int .i64 r14.U.Dst, .bool r14.U.NoSum, .string r14.U.Body] 47 (0, 0)), (b27, .cells #[.int .i64 r22.Vid, .int .i64 r22.Vni, slcV A26 r22.Peers.length] 35 (0, 0)), (b28, .cells #[.int .u64 r23.Dst, .int .u64 r23.Src, .bool r23.Tag.Has, .int .i64 r23.Tag.Pri, .bool r23.Tag.Dei, .int .i64 r23.Tag.Vid, .int .i64 r23.Type_, .string r23.Body] 29 (0, 0)), ((s29 8), .cells #[.int .i64 r33.Vid, .int .i64 r33.Vni, slcV (tt 3).2 r33.Peers.length] 35 (0, 0)), ((s29 9), .cells #[.int .u64 r34.Dst, .int .u64 r34.Src, .bool r34.Tag.Has, .int .i64 r34.Tag.Pri, .bool r34.Tag.Dei, .int .i64 r34.Tag.Vid, .int .i64 r34.Type_, .string r34.Body] 29 (0, 0))]) (fun tt => ([Row 3 api_Seg.encS api_Seg.inK (tt 0).1 r30, Row 1 (pl (encI .u32)) noK (tt 3).2 r33.Peers] ++ [Row 3 api_Seg.encS api_Seg.inK A21 r19, Row 1 (pl (encI .u32)) noK A26 r22.Peers, Row 3 api_Seg.encS api_Seg.inK A8 r6]) ++ Glob) (fun _ _ => by kernel_rfl) (fun _ _ => by kernel_rfl) (fun _ => by kernel_rfl) (fun s29 tt => ?_)
  generalize s29 8 = b38
  generalize s29 9 = b39
  generalize (tt 0).1 = A32
  generalize (tt 3).2 = A37
  refine WL.run 1 [] [0, 2, 3, 4, 6, 7, 8, 11] (fun _ => [(0, .bool false), (2, .string r11), (3, .int .i64 r12), (4, .pointer (some ⟨b17, 0, none⟩)), (6, .pointer (some ⟨b27, 0, none⟩)), (7, .pointer (some ⟨b28, 0, none⟩)), (8, .int .i64 r24), (11, .int .i64 r35)]) (fun _ => [(b17, .cells #[.int .i64 r14.Why, .int .u32 r14.Src, .int .i64 r14.U.Src, .int .i64 r14.U.Dst, .bool r14.U.NoSum, .string r14.U.Body] 47 (0, 0)), (b27, .cells #[.int .i64 r22.Vid, .int .i64 r22.Vni, slcV A26 r22.Peers.length] 35 (0, 0)), (b28, .cells #[.int .u64 r23.Dst, .int .u64 r23.Src, .bool r23.Tag.Has, .int .i64 r23.Tag.Pri, .bool r23.Tag.Dei, .int .i64 r23.Tag.Vid, .int .i64 r23.Type_, .string r23.Body] 29 (0, 0)), (b38, .cells #[.int .i64 r33.Vid, .int .i64 r33.Vni, slcV A37 r33.Peers.length] 35 (0, 0)), (b39, .cells #[.int .u64 r34.Dst, .int .u64 r34.Src, .bool r34.Tag.Has, .int .i64 r34.Tag.Pri, .bool r34.Tag.Dei, .int .i64 r34.Tag.Vid, .int .i64 r34.Type_, .string r34.Body] 29 (0, 0))]) (fun _ => []) (fun _ => by kernel_rfl) (fun _ => ?_)
  refine WP.done ?_
  refine WP.keep [true, true, true, false, false] (by kernel_rfl : _ = [(b17, .cells #[.int .i64 r14.Why, .int .u32 r14.Src, .int .i64 r14.U.Src, .int .i64 r14.U.Dst, .bool r14.U.NoSum, .string r14.U.Body] 47 (0, 0)), (b27, .cells #[.int .i64 r22.Vid, .int .i64 r22.Vni, slcV A26 r22.Peers.length] 35 (0, 0)), (b28, .cells #[.int .u64 r23.Dst, .int .u64 r23.Src, .bool r23.Tag.Has, .int .i64 r23.Tag.Pri, .bool r23.Tag.Dei, .int .i64 r23.Tag.Vid, .int .i64 r23.Type_, .string r23.Body] 29 (0, 0))]) ?_
  refine WP.seq ?_
  refine WP.region ?_
  refine WL.run 2 [0, 0, 0, 0] [0, 2, 3, 4, 6, 7, 8, 11, 54] (fun _ => [(0, .bool false), (2, .string r11), (3, .int .i64 r12), (4, .pointer (some ⟨b17, 0, none⟩)), (6, .pointer (some ⟨b27, 0, none⟩)), (7, .pointer (some ⟨b28, 0, none⟩)), (8, .int .i64 r24), (11, .int .i64 r35), (54, .agg #[.int .i64 r14.U.Src, .int .i64 r14.U.Dst, .bool r14.U.NoSum, .string r14.U.Body])]) (fun _ => [(b17, .cells #[.int .i64 r14.Why, .int .u32 r14.Src, .int .i64 r14.U.Src, .int .i64 r14.U.Dst, .bool r14.U.NoSum, .string r14.U.Body] 47 (0, 0)), (b27, .cells #[.int .i64 r22.Vid, .int .i64 r22.Vni, slcV A26 r22.Peers.length] 35 (0, 0)), (b28, .cells #[.int .u64 r23.Dst, .int .u64 r23.Src, .bool r23.Tag.Has, .int .i64 r23.Tag.Pri, .bool r23.Tag.Dei, .int .i64 r23.Tag.Vid, .int .i64 r23.Type_, .string r23.Body] 29 (0, 0))]) (fun _ => [b17, b17, b17, b17]) (fun _ => by kernel_rfl) (fun _ => ?_)
  refine WL.know (Row 3 api_Seg.encS api_Seg.inK (SkL.nil (fun _ => (SkL.nil (fun _ => ())))) ([] : List api_Seg)) [] [] (by kernel_rfl) (fun w _ => RowP.empty (fun _ => rfl)) ?_
  obtain ⟨⟨r40, r41, r42⟩, h43, hM⟩ := bind_some hM
  dsimp only at hM
  refine WL.callX (F0 := [Row 3 api_Seg.encS api_Seg.inK (SkL.nil (fun _ => (SkL.nil (fun _ => ())))) ([] : List api_Seg)]) [] [] [false, false, false] (fun _ => _) [0] (by kernel_rfl) (tunnel_Unwrap_calls k (SkL.nil (fun _ => (SkL.nil (fun _ => ())))) ([] : List api_Seg) 7 r14.U _ h43) rfl rfl (by kernel_rfl) (by kernel_rfl) (fun _ => rfl) (fun A44 => ?_)
  refine WL.run 9 [3, 3, 3, 4, 4, 4, 4, 4, 4, 4, 4] [0, 2, 3, 4, 6, 7, 8, 11, 14] (fun b45 => [(0, .bool false), (2, .string r11), (3, .int .i64 r12), (4, .pointer (some ⟨b17, 0, none⟩)), (6, .pointer (some ⟨b27, 0, none⟩)), (7, .pointer (some ⟨b28, 0, none⟩)), (8, .int .i64 r24), (11, .int .i64 r35), (14, .int .i64 r42)]) (fun b45 => [(b17, .cells #[.int .i64 r14.Why, .int .u32 r14.Src, .int .i64 r14.U.Src, .int .i64 r14.U.Dst, .bool r14.U.NoSum, .string r14.U.Body] 47 (0, 0)), (b27, .cells #[.int .i64 r22.Vid, .int .i64 r22.Vni, slcV A26 r22.Peers.length] 35 (0, 0)), (b28, .cells #[.int .u64 r23.Dst, .int .u64 r23.Src, .bool r23.Tag.Has, .int .i64 r23.Tag.Pri, .bool r23.Tag.Dei, .int .i64 r23.Tag.Vid, .int .i64 r23.Type_, .string r23.Body] 29 (0, 0)), (b45, .cells #[.int .i64 r40.Vid, .int .i64 r40.Vni, slcV A44 r40.Peers.length] 35 (0, 0)), ((b45 + 1), .cells #[.int .u64 r41.Dst, .int .u64 r41.Src, .bool r41.Tag.Has, .int .i64 r41.Tag.Pri, .bool r41.Tag.Dei, .int .i64 r41.Tag.Vid, .int .i64 r41.Type_, .string r41.Body] 29 (0, 0))]) (fun b45 => [(b45 + 1), (b45 + 1), (b45 + 1), (b45 + 1), (b45 + 1), (b45 + 1), (b45 + 1), (b45 + 1), b45, b45, b45]) (fun b45 => by kernel_rfl) (fun b45 => ?_)
  refine WP.done ?_
  refine WP.keep [true, true, true, false, false] (by kernel_rfl : _ = [(b17, .cells #[.int .i64 r14.Why, .int .u32 r14.Src, .int .i64 r14.U.Src, .int .i64 r14.U.Dst, .bool r14.U.NoSum, .string r14.U.Body] 47 (0, 0)), (b27, .cells #[.int .i64 r22.Vid, .int .i64 r22.Vni, slcV A26 r22.Peers.length] 35 (0, 0)), (b28, .cells #[.int .u64 r23.Dst, .int .u64 r23.Src, .bool r23.Tag.Has, .int .i64 r23.Tag.Pri, .bool r23.Tag.Dei, .int .i64 r23.Tag.Vid, .int .i64 r23.Type_, .string r23.Body] 29 (0, 0))]) ?_
  refine WP.seq ?_
  refine WP.region ?_
  obtain ⟨r46, h47, hM⟩ := bind_some hM
  refine WL.callX (F0 := []) [] [] [false, false, false] (fun _ => _) [] (by kernel_rfl) (gangwaylaw22_five_calls _ h47) rfl rfl (by kernel_rfl) (by kernel_rfl) (fun _ => rfl) (fun A48 => ?_)
  refine WL.run 1 [] [0, 2, 3, 4, 6, 7, 8, 11, 14, 60, 61] (fun _ => [(0, .bool false), (2, .string r11), (3, .int .i64 r12), (4, .pointer (some ⟨b17, 0, none⟩)), (6, .pointer (some ⟨b27, 0, none⟩)), (7, .pointer (some ⟨b28, 0, none⟩)), (8, .int .i64 r24), (11, .int .i64 r35), (14, .int .i64 r42), (60, slcV A48 r46.length), (61, .agg #[.int .i64 0, .int .i64 0, .bool false, .string (⟨#[120]⟩ : ByteArray)])]) (fun _ => [(b17, .cells #[.int .i64 r14.Why, .int .u32 r14.Src, .int .i64 r14.U.Src, .int .i64 r14.U.Dst, .bool r14.U.NoSum, .string r14.U.Body] 47 (0, 0)), (b27, .cells #[.int .i64 r22.Vid, .int .i64 r22.Vni, slcV A26 r22.Peers.length] 35 (0, 0)), (b28, .cells #[.int .u64 r23.Dst, .int .u64 r23.Src, .bool r23.Tag.Has, .int .i64 r23.Tag.Pri, .bool r23.Tag.Dei, .int .i64 r23.Tag.Vid, .int .i64 r23.Type_, .string r23.Body] 29 (0, 0))]) (fun _ => []) (fun _ => by kernel_rfl) (fun _ => ?_)
  obtain ⟨⟨r49, r50, r51⟩, h52, hM⟩ := bind_some hM
  dsimp only at hM
  refine WL.callX (F0 := [Row 3 api_Seg.encS api_Seg.inK A48 r46]) [] [] [false, false, false] (fun _ => _) [0] (by kernel_rfl) (tunnel_Unwrap_calls k A48 r46 7 (api_Udp.mk 0 0 false (⟨#[120]⟩ : ByteArray)) _ h52) rfl rfl (by kernel_rfl) (by kernel_rfl) (fun _ => rfl) (fun A53 => ?_)
  refine WL.run 9 [3, 3, 3, 4, 4, 4, 4, 4, 4, 4, 4] [0, 2, 3, 4, 6, 7, 8, 11, 14, 17] (fun b54 => [(0, .bool false), (2, .string r11), (3, .int .i64 r12), (4, .pointer (some ⟨b17, 0, none⟩)), (6, .pointer (some ⟨b27, 0, none⟩)), (7, .pointer (some ⟨b28, 0, none⟩)), (8, .int .i64 r24), (11, .int .i64 r35), (14, .int .i64 r42), (17, .int .i64 r51)]) (fun b54 => [(b17, .cells #[.int .i64 r14.Why, .int .u32 r14.Src, .int .i64 r14.U.Src, .int .i64 r14.U.Dst, .bool r14.U.NoSum, .string r14.U.Body] 47 (0, 0)), (b27, .cells #[.int .i64 r22.Vid, .int .i64 r22.Vni, slcV A26 r22.Peers.length] 35 (0, 0)), (b28, .cells #[.int .u64 r23.Dst, .int .u64 r23.Src, .bool r23.Tag.Has, .int .i64 r23.Tag.Pri, .bool r23.Tag.Dei, .int .i64 r23.Tag.Vid, .int .i64 r23.Type_, .string r23.Body] 29 (0, 0)), (b54, .cells #[.int .i64 r49.Vid, .int .i64 r49.Vni, slcV A53 r49.Peers.length] 35 (0, 0)), ((b54 + 1), .cells #[.int .u64 r50.Dst, .int .u64 r50.Src, .bool r50.Tag.Has, .int .i64 r50.Tag.Pri, .bool r50.Tag.Dei, .int .i64 r50.Tag.Vid, .int .i64 r50.Type_, .string r50.Body] 29 (0, 0))]) (fun b54 => [(b54 + 1), (b54 + 1), (b54 + 1), (b54 + 1), (b54 + 1), (b54 + 1), (b54 + 1), (b54 + 1), b54, b54, b54]) (fun b54 => by kernel_rfl) (fun b54 => ?_)
  refine WP.done ?_
  refine WP.keep [true, true, true, false, false] (by kernel_rfl : _ = [(b17, .cells #[.int .i64 r14.Why, .int .u32 r14.Src, .int .i64 r14.U.Src, .int .i64 r14.U.Dst, .bool r14.U.NoSum, .string r14.U.Body] 47 (0, 0)), (b27, .cells #[.int .i64 r22.Vid, .int .i64 r22.Vni, slcV A26 r22.Peers.length] 35 (0, 0)), (b28, .cells #[.int .u64 r23.Dst, .int .u64 r23.Src, .bool r23.Tag.Has, .int .i64 r23.Tag.Pri, .bool r23.Tag.Dei, .int .i64 r23.Tag.Vid, .int .i64 r23.Type_, .string r23.Body] 29 (0, 0))]) ?_
  refine WP.seq ?_
  refine WP.region ?_
  obtain ⟨r55, h56, hM⟩ := bind_some hM
  refine WL.callX (F0 := []) [] [] [false, false, false] (fun _ => _) [] (by kernel_rfl) (gangwaylaw22_five_calls _ h56) rfl rfl (by kernel_rfl) (by kernel_rfl) (fun _ => rfl) (fun A57 => ?_)
  obtain ⟨t58, h59, hM⟩ := bind_some hM
  refine WL.valF (φ := Row 3 api_Seg.encS api_Seg.inK A57 r55) (fact_at 0 rfl) (fun w hR => run_indexRowF (A := A57) (xs := r55) (i := 0) (k := .i64) (e := 35) (m := 3) (by kernel_rfl) (by kernel_rfl) h59 (by kernel_rfl) (by kernel_rfl) hR) (by kernel_rfl) (by kernel_rfl) rfl ?_
  refine WL.valF (φ := Row 3 api_Seg.encS api_Seg.inK A57 r55) (fact_at 0 rfl) (fun w hR => run_loadRowFA (A := A57) (xs := r55) (i := 0) (j := 0) (n := 3) (vs := [.int .i64 t58.Vid, .int .i64 t58.Vni, slcV (A57.s (Int.toNat 0)) t58.Peers.length]) h59 (fun _ => by kernel_rfl) (by kernel_rfl) (by kernel_rfl) (by kernel_rfl) rfl hR) (by kernel_rfl) (by kernel_rfl) rfl ?_
  refine WL.know (Row 1 (pl (encI .u32)) noK (A57.s (Int.toNat 0)) t58.Peers) [0] [Row 3 api_Seg.encS api_Seg.inK A57 r55] (by kernel_rfl) (fun w hψ => ((hψ _ (List.mem_singleton.2 rfl)).inner _ _ (getL_parts h59).2)) ?_
  refine WL.run 1 [] [0, 2, 3, 4, 6, 7, 8, 11, 14, 17, 69, 70] (fun _ => [(0, .bool false), (2, .string r11), (3, .int .i64 r12), (4, .pointer (some ⟨b17, 0, none⟩)), (6, .pointer (some ⟨b27, 0, none⟩)), (7, .pointer (some ⟨b28, 0, none⟩)), (8, .int .i64 r24), (11, .int .i64 r35), (14, .int .i64 r42), (17, .int .i64 r51), (69, .agg #[.int .i64 t58.Vid, .int .i64 t58.Vni, slcV (A57.s (Int.toNat 0)) t58.Peers.length]), (70, .agg #[.int .u64 0, .int .u64 0, .bool false, .int .i64 0, .bool false, .int .i64 0, .int .i64 7, .string (⟨#[]⟩ : ByteArray)])]) (fun _ => [(b17, .cells #[.int .i64 r14.Why, .int .u32 r14.Src, .int .i64 r14.U.Src, .int .i64 r14.U.Dst, .bool r14.U.NoSum, .string r14.U.Body] 47 (0, 0)), (b27, .cells #[.int .i64 r22.Vid, .int .i64 r22.Vni, slcV A26 r22.Peers.length] 35 (0, 0)), (b28, .cells #[.int .u64 r23.Dst, .int .u64 r23.Src, .bool r23.Tag.Has, .int .i64 r23.Tag.Pri, .bool r23.Tag.Dei, .int .i64 r23.Tag.Vid, .int .i64 r23.Type_, .string r23.Body] 29 (0, 0))]) (fun _ => []) (fun _ => by kernel_rfl) (fun _ => ?_)
  obtain ⟨⟨r60, r61⟩, h62, hM⟩ := bind_some hM
  dsimp only at hM
  refine WL.callP [] [] (tunnel_Wrap_calls k (A57.s (Int.toNat 0)) 7 1 t58.Vid t58.Vni t58.Peers (api_Frame.mk 0 0 (api_Tag.mk false 0 false 0) 7 (⟨#[]⟩ : ByteArray)) 3 1500 _ h62) (sub_pick [0] (by kernel_rfl)) (by kernel_rfl) (by kernel_rfl) rfl ?_
  refine WL.run 5 [] [0, 2, 3, 4, 6, 7, 8, 11, 14, 17, 19] (fun _ => [(0, .bool false), (2, .string r11), (3, .int .i64 r12), (4, .pointer (some ⟨b17, 0, none⟩)), (6, .pointer (some ⟨b27, 0, none⟩)), (7, .pointer (some ⟨b28, 0, none⟩)), (8, .int .i64 r24), (11, .int .i64 r35), (14, .int .i64 r42), (17, .int .i64 r51), (19, .int .i64 r61)]) (fun _ => [(b17, .cells #[.int .i64 r14.Why, .int .u32 r14.Src, .int .i64 r14.U.Src, .int .i64 r14.U.Dst, .bool r14.U.NoSum, .string r14.U.Body] 47 (0, 0)), (b27, .cells #[.int .i64 r22.Vid, .int .i64 r22.Vni, slcV A26 r22.Peers.length] 35 (0, 0)), (b28, .cells #[.int .u64 r23.Dst, .int .u64 r23.Src, .bool r23.Tag.Has, .int .i64 r23.Tag.Pri, .bool r23.Tag.Dei, .int .i64 r23.Tag.Vid, .int .i64 r23.Type_, .string r23.Body] 29 (0, 0))]) (fun _ => []) (fun _ => by kernel_rfl) (fun _ => ?_)
  refine WP.done ?_
  refine WP.seq ?_
  refine WP.region ?_
  refine WL.run 3 [] [0, 2, 4, 6, 7, 8, 11, 14, 17, 19, 76] (fun _ => [(0, .bool false), (2, .string r11), (4, .pointer (some ⟨b17, 0, none⟩)), (6, .pointer (some ⟨b27, 0, none⟩)), (7, .pointer (some ⟨b28, 0, none⟩)), (8, .int .i64 r24), (11, .int .i64 r35), (14, .int .i64 r42), (17, .int .i64 r51), (19, .int .i64 r61), (76, .bool (r12 == 0))]) (fun _ => [(b17, .cells #[.int .i64 r14.Why, .int .u32 r14.Src, .int .i64 r14.U.Src, .int .i64 r14.U.Dst, .bool r14.U.NoSum, .string r14.U.Body] 47 (0, 0)), (b27, .cells #[.int .i64 r22.Vid, .int .i64 r22.Vni, slcV A26 r22.Peers.length] 35 (0, 0)), (b28, .cells #[.int .u64 r23.Dst, .int .u64 r23.Src, .bool r23.Tag.Has, .int .i64 r23.Tag.Pri, .bool r23.Tag.Dei, .int .i64 r23.Tag.Vid, .int .i64 r23.Type_, .string r23.Body] 29 (0, 0))]) (fun _ => []) (fun _ => by kernel_rfl) (fun _ => ?_)
  refine WL.sub [0, 2, 4, 6, 7, 8, 11, 14, 17, 19, 76] (L' := [(0, .bool false), (2, .string r11), (4, .pointer (some ⟨b17, 0, none⟩)), (6, .pointer (some ⟨b27, 0, none⟩)), (7, .pointer (some ⟨b28, 0, none⟩)), (8, .int .i64 r24), (11, .int .i64 r35), (14, .int .i64 r42), (17, .int .i64 r51), (19, .int .i64 r61), (76, .bool (r12 == 0))]) (by kernel_rfl) ?_
  refine WL.both (fun b' => [(0, .bool false), (2, .string r11), (4, .pointer (some ⟨b17, 0, none⟩)), (6, .pointer (some ⟨b27, 0, none⟩)), (7, .pointer (some ⟨b28, 0, none⟩)), (8, .int .i64 r24), (11, .int .i64 r35), (14, .int .i64 r42), (17, .int .i64 r51), (19, .int .i64 r61), (76, .bool b')]) (r12 == 0) 4 [] [] [0, 4, 6, 7, 8, 11, 14, 17, 19, 80] (fun b' => [(0, .bool false), (4, .pointer (some ⟨b17, 0, none⟩)), (6, .pointer (some ⟨b27, 0, none⟩)), (7, .pointer (some ⟨b28, 0, none⟩)), (8, .int .i64 r24), (11, .int .i64 r35), (14, .int .i64 r42), (17, .int .i64 r51), (19, .int .i64 r61), (80, .bool (b' && ((r11.size : Int) == 52)))]) [] [] (fun _ => by kernel_rfl) (fun _ => by kernel_rfl) ?_
  refine WL.run 1 [] [0, 4, 6, 7, 8, 11, 14, 17, 19, 81] (fun _ => [(0, .bool false), (4, .pointer (some ⟨b17, 0, none⟩)), (6, .pointer (some ⟨b27, 0, none⟩)), (7, .pointer (some ⟨b28, 0, none⟩)), (8, .int .i64 r24), (11, .int .i64 r35), (14, .int .i64 r42), (17, .int .i64 r51), (19, .int .i64 r61), (81, .bool ((r12 == 0) && ((r11.size : Int) == 52)))]) (fun _ => [(b17, .cells #[.int .i64 r14.Why, .int .u32 r14.Src, .int .i64 r14.U.Src, .int .i64 r14.U.Dst, .bool r14.U.NoSum, .string r14.U.Body] 47 (0, 0)), (b27, .cells #[.int .i64 r22.Vid, .int .i64 r22.Vni, slcV A26 r22.Peers.length] 35 (0, 0)), (b28, .cells #[.int .u64 r23.Dst, .int .u64 r23.Src, .bool r23.Tag.Has, .int .i64 r23.Tag.Pri, .bool r23.Tag.Dei, .int .i64 r23.Tag.Vid, .int .i64 r23.Type_, .string r23.Body] 29 (0, 0))]) (fun _ => []) (fun _ => by kernel_rfl) (fun _ => ?_)
  refine WL.sub [0, 4, 6, 7, 8, 11, 14, 17, 19, 81] (L' := [(0, .bool false), (4, .pointer (some ⟨b17, 0, none⟩)), (6, .pointer (some ⟨b27, 0, none⟩)), (7, .pointer (some ⟨b28, 0, none⟩)), (8, .int .i64 r24), (11, .int .i64 r35), (14, .int .i64 r42), (17, .int .i64 r51), (19, .int .i64 r61), (81, .bool ((r12 == 0) && ((r11.size : Int) == 52)))]) (by kernel_rfl) ?_
  refine WL.both (fun b' => [(0, .bool false), (4, .pointer (some ⟨b17, 0, none⟩)), (6, .pointer (some ⟨b27, 0, none⟩)), (7, .pointer (some ⟨b28, 0, none⟩)), (8, .int .i64 r24), (11, .int .i64 r35), (14, .int .i64 r42), (17, .int .i64 r51), (19, .int .i64 r61), (81, .bool b')]) ((r12 == 0) && ((r11.size : Int) == 52)) 4 [0] [] [0, 6, 7, 8, 11, 14, 17, 19, 85] (fun b' => [(0, .bool false), (6, .pointer (some ⟨b27, 0, none⟩)), (7, .pointer (some ⟨b28, 0, none⟩)), (8, .int .i64 r24), (11, .int .i64 r35), (14, .int .i64 r42), (17, .int .i64 r51), (19, .int .i64 r61), (85, .bool (b' && (r14.Why == 0)))]) [b17] [] (fun _ => by kernel_rfl) (fun _ => by kernel_rfl) ?_
  refine WL.run 1 [] [0, 6, 7, 8, 11, 14, 17, 19, 86] (fun _ => [(0, .bool false), (6, .pointer (some ⟨b27, 0, none⟩)), (7, .pointer (some ⟨b28, 0, none⟩)), (8, .int .i64 r24), (11, .int .i64 r35), (14, .int .i64 r42), (17, .int .i64 r51), (19, .int .i64 r61), (86, .bool (((r12 == 0) && ((r11.size : Int) == 52)) && (r14.Why == 0)))]) (fun _ => [(b17, .cells #[.int .i64 r14.Why, .int .u32 r14.Src, .int .i64 r14.U.Src, .int .i64 r14.U.Dst, .bool r14.U.NoSum, .string r14.U.Body] 47 (0, 0)), (b27, .cells #[.int .i64 r22.Vid, .int .i64 r22.Vni, slcV A26 r22.Peers.length] 35 (0, 0)), (b28, .cells #[.int .u64 r23.Dst, .int .u64 r23.Src, .bool r23.Tag.Has, .int .i64 r23.Tag.Pri, .bool r23.Tag.Dei, .int .i64 r23.Tag.Vid, .int .i64 r23.Type_, .string r23.Body] 29 (0, 0))]) (fun _ => []) (fun _ => by kernel_rfl) (fun _ => ?_)
  refine WL.sub [0, 6, 7, 8, 11, 14, 17, 19, 86] (L' := [(0, .bool false), (6, .pointer (some ⟨b27, 0, none⟩)), (7, .pointer (some ⟨b28, 0, none⟩)), (8, .int .i64 r24), (11, .int .i64 r35), (14, .int .i64 r42), (17, .int .i64 r51), (19, .int .i64 r61), (86, .bool (((r12 == 0) && ((r11.size : Int) == 52)) && (r14.Why == 0)))]) (by kernel_rfl) ?_
  refine WL.both (fun b' => [(0, .bool false), (6, .pointer (some ⟨b27, 0, none⟩)), (7, .pointer (some ⟨b28, 0, none⟩)), (8, .int .i64 r24), (11, .int .i64 r35), (14, .int .i64 r42), (17, .int .i64 r51), (19, .int .i64 r61), (86, .bool b')]) (((r12 == 0) && ((r11.size : Int) == 52)) && (r14.Why == 0)) 4 [1] [] [0, 7, 8, 11, 14, 17, 19, 90] (fun b' => [(0, .bool false), (7, .pointer (some ⟨b28, 0, none⟩)), (8, .int .i64 r24), (11, .int .i64 r35), (14, .int .i64 r42), (17, .int .i64 r51), (19, .int .i64 r61), (90, .bool (b' && (r22.Vid == 5)))]) [b27] [] (fun _ => by kernel_rfl) (fun _ => by kernel_rfl) ?_
  refine WL.run 1 [] [0, 7, 8, 11, 14, 17, 19, 91] (fun _ => [(0, .bool false), (7, .pointer (some ⟨b28, 0, none⟩)), (8, .int .i64 r24), (11, .int .i64 r35), (14, .int .i64 r42), (17, .int .i64 r51), (19, .int .i64 r61), (91, .bool ((((r12 == 0) && ((r11.size : Int) == 52)) && (r14.Why == 0)) && (r22.Vid == 5)))]) (fun _ => [(b17, .cells #[.int .i64 r14.Why, .int .u32 r14.Src, .int .i64 r14.U.Src, .int .i64 r14.U.Dst, .bool r14.U.NoSum, .string r14.U.Body] 47 (0, 0)), (b27, .cells #[.int .i64 r22.Vid, .int .i64 r22.Vni, slcV A26 r22.Peers.length] 35 (0, 0)), (b28, .cells #[.int .u64 r23.Dst, .int .u64 r23.Src, .bool r23.Tag.Has, .int .i64 r23.Tag.Pri, .bool r23.Tag.Dei, .int .i64 r23.Tag.Vid, .int .i64 r23.Type_, .string r23.Body] 29 (0, 0))]) (fun _ => []) (fun _ => by kernel_rfl) (fun _ => ?_)
  refine WL.sub [0, 7, 8, 11, 14, 17, 19, 91] (L' := [(0, .bool false), (7, .pointer (some ⟨b28, 0, none⟩)), (8, .int .i64 r24), (11, .int .i64 r35), (14, .int .i64 r42), (17, .int .i64 r51), (19, .int .i64 r61), (91, .bool ((((r12 == 0) && ((r11.size : Int) == 52)) && (r14.Why == 0)) && (r22.Vid == 5)))]) (by kernel_rfl) ?_
  refine WL.both (fun b' => [(0, .bool false), (7, .pointer (some ⟨b28, 0, none⟩)), (8, .int .i64 r24), (11, .int .i64 r35), (14, .int .i64 r42), (17, .int .i64 r51), (19, .int .i64 r61), (91, .bool b')]) ((((r12 == 0) && ((r11.size : Int) == 52)) && (r14.Why == 0)) && (r22.Vid == 5)) 3 [] [] [0, 7, 11, 14, 17, 19, 94] (fun b' => [(0, .bool false), (7, .pointer (some ⟨b28, 0, none⟩)), (11, .int .i64 r35), (14, .int .i64 r42), (17, .int .i64 r51), (19, .int .i64 r61), (94, .bool (b' && (r24 == 0)))]) [] [] (fun _ => by kernel_rfl) (fun _ => by kernel_rfl) ?_
  refine WL.run 1 [] [0, 7, 11, 14, 17, 19, 95] (fun _ => [(0, .bool false), (7, .pointer (some ⟨b28, 0, none⟩)), (11, .int .i64 r35), (14, .int .i64 r42), (17, .int .i64 r51), (19, .int .i64 r61), (95, .bool (((((r12 == 0) && ((r11.size : Int) == 52)) && (r14.Why == 0)) && (r22.Vid == 5)) && (r24 == 0)))]) (fun _ => [(b17, .cells #[.int .i64 r14.Why, .int .u32 r14.Src, .int .i64 r14.U.Src, .int .i64 r14.U.Dst, .bool r14.U.NoSum, .string r14.U.Body] 47 (0, 0)), (b27, .cells #[.int .i64 r22.Vid, .int .i64 r22.Vni, slcV A26 r22.Peers.length] 35 (0, 0)), (b28, .cells #[.int .u64 r23.Dst, .int .u64 r23.Src, .bool r23.Tag.Has, .int .i64 r23.Tag.Pri, .bool r23.Tag.Dei, .int .i64 r23.Tag.Vid, .int .i64 r23.Type_, .string r23.Body] 29 (0, 0))]) (fun _ => []) (fun _ => by kernel_rfl) (fun _ => ?_)
  refine WL.sub [0, 7, 11, 14, 17, 19, 95] (L' := [(0, .bool false), (7, .pointer (some ⟨b28, 0, none⟩)), (11, .int .i64 r35), (14, .int .i64 r42), (17, .int .i64 r51), (19, .int .i64 r61), (95, .bool (((((r12 == 0) && ((r11.size : Int) == 52)) && (r14.Why == 0)) && (r22.Vid == 5)) && (r24 == 0)))]) (by kernel_rfl) ?_
  refine WL.join (σ := Bool) 4 (fun st => gangwaylaw22_fixed.k1 r35 r42 r51 r61 st = some r) (fun st => [(0, .bool false), (11, .int .i64 r35), (14, .int .i64 r42), (17, .int .i64 r51), (19, .int .i64 r61), (99, .bool st)]) (fun st => Sat w Z [] [] ([Row 1 (pl (encI .u32)) noK (A57.s (Int.toNat 0)) t58.Peers, Row 3 api_Seg.encS api_Seg.inK A57 r55, Row 1 (pl (encI .u32)) noK A53 r49.Peers, Row 3 api_Seg.encS api_Seg.inK A48 r46, Row 1 (pl (encI .u32)) noK A44 r40.Peers, Row 3 api_Seg.encS api_Seg.inK (SkL.nil (fun _ => (SkL.nil (fun _ => ())))) ([] : List api_Seg), Row 3 api_Seg.encS api_Seg.inK A32 r30, Row 1 (pl (encI .u32)) noK A37 r33.Peers, Row 3 api_Seg.encS api_Seg.inK A21 r19, Row 1 (pl (encI .u32)) noK A26 r22.Peers, Row 3 api_Seg.encS api_Seg.inK A8 r6] ++ Glob)) (fun st hM => ?_) (fun K1 => ?_)
  ·
    obtain ⟨x64, rfl⟩ : ∃ y, y = st := ⟨st, rfl⟩
    replace hM : gangwaylaw22_fixed.k1 r35 r42 r51 r61 x64 = some r := hM
    unfold gangwaylaw22_fixed.k1 at hM
    show WL _ _ _ _ _ [(0, .bool false), (11, .int .i64 r35), (14, .int .i64 r42), (17, .int .i64 r51), (19, .int .i64 r61), (99, .bool x64)] (Sat w Z [] [] ([Row 1 (pl (encI .u32)) noK (A57.s (Int.toNat 0)) t58.Peers, Row 3 api_Seg.encS api_Seg.inK A57 r55, Row 1 (pl (encI .u32)) noK A53 r49.Peers, Row 3 api_Seg.encS api_Seg.inK A48 r46, Row 1 (pl (encI .u32)) noK A44 r40.Peers, Row 3 api_Seg.encS api_Seg.inK (SkL.nil (fun _ => (SkL.nil (fun _ => ())))) ([] : List api_Seg), Row 3 api_Seg.encS api_Seg.inK A32 r30, Row 1 (pl (encI .u32)) noK A37 r33.Peers, Row 3 api_Seg.encS api_Seg.inK A21 r19, Row 1 (pl (encI .u32)) noK A26 r22.Peers, Row 3 api_Seg.encS api_Seg.inK A8 r6] ++ Glob))
    refine WL.run 1 [] [0, 11, 14, 17, 19, 100] (fun _ => [(0, .bool false), (11, .int .i64 r35), (14, .int .i64 r42), (17, .int .i64 r51), (19, .int .i64 r61), (100, .bool x64)]) (fun _ => []) (fun _ => []) (fun _ => by kernel_rfl) (fun _ => ?_)
    refine WL.sub [0, 11, 14, 17, 19, 100] (L' := [(0, .bool false), (11, .int .i64 r35), (14, .int .i64 r42), (17, .int .i64 r51), (19, .int .i64 r61), (100, .bool x64)]) (by kernel_rfl) ?_
    refine WL.both (fun b' => [(0, .bool false), (11, .int .i64 r35), (14, .int .i64 r42), (17, .int .i64 r51), (19, .int .i64 r61), (100, .bool b')]) x64 3 [] [] [0, 14, 17, 19, 103] (fun b' => [(0, .bool false), (14, .int .i64 r42), (17, .int .i64 r51), (19, .int .i64 r61), (103, .bool (b' && (r35 == 3)))]) [] [] (fun _ => by kernel_rfl) (fun _ => by kernel_rfl) ?_
    refine WL.run 1 [] [0, 14, 17, 19, 104] (fun _ => [(0, .bool false), (14, .int .i64 r42), (17, .int .i64 r51), (19, .int .i64 r61), (104, .bool (x64 && (r35 == 3)))]) (fun _ => []) (fun _ => []) (fun _ => by kernel_rfl) (fun _ => ?_)
    refine WL.sub [0, 14, 17, 19, 104] (L' := [(0, .bool false), (14, .int .i64 r42), (17, .int .i64 r51), (19, .int .i64 r61), (104, .bool (x64 && (r35 == 3)))]) (by kernel_rfl) ?_
    refine WL.both (fun b' => [(0, .bool false), (14, .int .i64 r42), (17, .int .i64 r51), (19, .int .i64 r61), (104, .bool b')]) (x64 && (r35 == 3)) 3 [] [] [0, 17, 19, 107] (fun b' => [(0, .bool false), (17, .int .i64 r51), (19, .int .i64 r61), (107, .bool (b' && (r42 == 2)))]) [] [] (fun _ => by kernel_rfl) (fun _ => by kernel_rfl) ?_
    refine WL.run 1 [] [0, 17, 19, 108] (fun _ => [(0, .bool false), (17, .int .i64 r51), (19, .int .i64 r61), (108, .bool ((x64 && (r35 == 3)) && (r42 == 2)))]) (fun _ => []) (fun _ => []) (fun _ => by kernel_rfl) (fun _ => ?_)
    refine WL.sub [0, 17, 19, 108] (L' := [(0, .bool false), (17, .int .i64 r51), (19, .int .i64 r61), (108, .bool ((x64 && (r35 == 3)) && (r42 == 2)))]) (by kernel_rfl) ?_
    refine WL.both (fun b' => [(0, .bool false), (17, .int .i64 r51), (19, .int .i64 r61), (108, .bool b')]) ((x64 && (r35 == 3)) && (r42 == 2)) 3 [] [] [0, 19, 111] (fun b' => [(0, .bool false), (19, .int .i64 r61), (111, .bool (b' && (r51 == 1)))]) [] [] (fun _ => by kernel_rfl) (fun _ => by kernel_rfl) ?_
    refine WL.run 1 [] [0, 19, 112] (fun _ => [(0, .bool false), (19, .int .i64 r61), (112, .bool (((x64 && (r35 == 3)) && (r42 == 2)) && (r51 == 1)))]) (fun _ => []) (fun _ => []) (fun _ => by kernel_rfl) (fun _ => ?_)
    refine WL.sub [0, 19, 112] (L' := [(0, .bool false), (19, .int .i64 r61), (112, .bool (((x64 && (r35 == 3)) && (r42 == 2)) && (r51 == 1)))]) (by kernel_rfl) ?_
    refine WL.both (fun b' => [(0, .bool false), (19, .int .i64 r61), (112, .bool b')]) (((x64 && (r35 == 3)) && (r42 == 2)) && (r51 == 1)) 3 [] [] [0, 115] (fun b' => [(0, .bool false), (115, .bool (b' && (r61 == 220)))]) [] [] (fun _ => by kernel_rfl) (fun _ => by kernel_rfl) ?_
    refine WL.run 1 [] [0] (fun _ => [(0, .bool ((((x64 && (r35 == 3)) && (r42 == 2)) && (r51 == 1)) && (r61 == 220)))]) (fun _ => []) (fun _ => []) (fun _ => by kernel_rfl) (fun _ => ?_)
    refine WP.done ?_
    obtain rfl := Option.some.inj hM
    exact WP.ret [] [] (.bool ((((x64 && (r35 == 3)) && (r42 == 2)) && (r51 == 1)) && (r61 == 220))) (by kernel_rfl) (fun w' hw => ⟨rfl, (hw.pick [] rfl).less (fun _ h => List.mem_append_right _ h)⟩)
  ·
    refine WL.split (fun b' => [(0, .bool false), (7, .pointer (some ⟨b28, 0, none⟩)), (11, .int .i64 r35), (14, .int .i64 r42), (17, .int .i64 r51), (19, .int .i64 r61), (95, .bool b')]) (((((r12 == 0) && ((r11.size : Int) == 52)) && (r14.Why == 0)) && (r22.Vid == 5)) && (r24 == 0)) (fun c63 => ?_) (fun c63 => ?_)
    · replace hM := cond_t hM c63
      refine WL.run 2 [2, 2, 2, 2, 2, 2, 2, 2] [0, 11, 14, 17, 19, 95, 96, 97] (fun _ => [(0, .bool false), (11, .int .i64 r35), (14, .int .i64 r42), (17, .int .i64 r51), (19, .int .i64 r61), (95, .bool true), (96, .agg #[.int .u64 r23.Dst, .int .u64 r23.Src, .bool r23.Tag.Has, .int .i64 r23.Tag.Pri, .bool r23.Tag.Dei, .int .i64 r23.Tag.Vid, .int .i64 r23.Type_, .string r23.Body]), (97, .agg #[.int .u64 281474976710655, .int .u64 2, .bool false, .int .i64 0, .bool false, .int .i64 0, .int .i64 2048, .string (⟨#[104, 105]⟩ : ByteArray)])]) (fun _ => [(b17, .cells #[.int .i64 r14.Why, .int .u32 r14.Src, .int .i64 r14.U.Src, .int .i64 r14.U.Dst, .bool r14.U.NoSum, .string r14.U.Body] 47 (0, 0)), (b27, .cells #[.int .i64 r22.Vid, .int .i64 r22.Vni, slcV A26 r22.Peers.length] 35 (0, 0)), (b28, .cells #[.int .u64 r23.Dst, .int .u64 r23.Src, .bool r23.Tag.Has, .int .i64 r23.Tag.Pri, .bool r23.Tag.Dei, .int .i64 r23.Tag.Vid, .int .i64 r23.Type_, .string r23.Body] 29 (0, 0))]) (fun _ => [b28, b28, b28, b28, b28, b28, b28, b28]) (fun _ => by kernel_rfl) (fun _ => ?_)
      refine WL.val (fun _ => run_structEq (xs := #[.int .u64 r23.Dst, .int .u64 r23.Src, .bool r23.Tag.Has, .int .i64 r23.Tag.Pri, .bool r23.Tag.Dei, .int .i64 r23.Tag.Vid, .int .i64 r23.Type_, .string r23.Body]) (ys := #[.int .u64 281474976710655, .int .u64 2, .bool false, .int .i64 0, .bool false, .int .i64 0, .int .i64 2048, .string (⟨#[104, 105]⟩ : ByteArray)]) (b := ((r23.Dst == 281474976710655) && ((r23.Src == 2) && (((r23.Tag.Has == false) && ((r23.Tag.Pri == 0) && ((r23.Tag.Dei == false) && ((r23.Tag.Vid == 0) && true)))) && ((r23.Type_ == 2048) && ((r23.Body == (⟨#[104, 105]⟩ : ByteArray)) && true)))))) (by kernel_rfl) (by kernel_rfl) (by kernel_rfl) (by kernel_rfl)) (by kernel_rfl) (by kernel_rfl) rfl ?_
      refine WL.run 1 [] [0, 11, 14, 17, 19, 99] (fun _ => [(0, .bool false), (11, .int .i64 r35), (14, .int .i64 r42), (17, .int .i64 r51), (19, .int .i64 r61), (99, .bool ((r23.Dst == 281474976710655) && ((r23.Src == 2) && (((r23.Tag.Has == false) && ((r23.Tag.Pri == 0) && ((r23.Tag.Dei == false) && ((r23.Tag.Vid == 0) && true)))) && ((r23.Type_ == 2048) && ((r23.Body == (⟨#[104, 105]⟩ : ByteArray)) && true))))))]) (fun _ => [(b17, .cells #[.int .i64 r14.Why, .int .u32 r14.Src, .int .i64 r14.U.Src, .int .i64 r14.U.Dst, .bool r14.U.NoSum, .string r14.U.Body] 47 (0, 0)), (b27, .cells #[.int .i64 r22.Vid, .int .i64 r22.Vni, slcV A26 r22.Peers.length] 35 (0, 0)), (b28, .cells #[.int .u64 r23.Dst, .int .u64 r23.Src, .bool r23.Tag.Has, .int .i64 r23.Tag.Pri, .bool r23.Tag.Dei, .int .i64 r23.Tag.Vid, .int .i64 r23.Type_, .string r23.Body] 29 (0, 0))]) (fun _ => []) (fun _ => by kernel_rfl) (fun _ => ?_)
      exact WL.sub [0, 11, 14, 17, 19, 99] (by kernel_rfl) (WL.pick [] (by kernel_rfl) (by kernel_rfl) (WL.lessF [0, 1, 2, 3, 4, 5, 6, 7, 8, 9, 10] (by kernel_rfl) (K1 ((r23.Dst == 281474976710655) && ((r23.Src == 2) && (((r23.Tag.Has == false) && ((r23.Tag.Pri == 0) && ((r23.Tag.Dei == false) && ((r23.Tag.Vid == 0) && true)))) && ((r23.Type_ == 2048) && ((r23.Body == (⟨#[104, 105]⟩ : ByteArray)) && true))))) hM)))
    · replace hM := cond_f hM c63
      refine WL.run 4 [] [0, 11, 14, 17, 19, 99] (fun _ => [(0, .bool false), (11, .int .i64 r35), (14, .int .i64 r42), (17, .int .i64 r51), (19, .int .i64 r61), (99, .bool false)]) (fun _ => [(b17, .cells #[.int .i64 r14.Why, .int .u32 r14.Src, .int .i64 r14.U.Src, .int .i64 r14.U.Dst, .bool r14.U.NoSum, .string r14.U.Body] 47 (0, 0)), (b27, .cells #[.int .i64 r22.Vid, .int .i64 r22.Vni, slcV A26 r22.Peers.length] 35 (0, 0)), (b28, .cells #[.int .u64 r23.Dst, .int .u64 r23.Src, .bool r23.Tag.Has, .int .i64 r23.Tag.Pri, .bool r23.Tag.Dei, .int .i64 r23.Tag.Vid, .int .i64 r23.Type_, .string r23.Body] 29 (0, 0))]) (fun _ => []) (fun _ => by kernel_rfl) (fun _ => ?_)
      exact WL.sub [0, 11, 14, 17, 19, 99] (by kernel_rfl) (WL.pick [] (by kernel_rfl) (by kernel_rfl) (WL.lessF [0, 1, 2, 3, 4, 5, 6, 7, 8, 9, 10] (by kernel_rfl) (K1 false hM)))

end Go.Proofs.YtbodofjnfmjbpaaGreatDoor
