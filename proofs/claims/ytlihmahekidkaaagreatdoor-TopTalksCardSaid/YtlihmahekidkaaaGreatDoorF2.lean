/- The walks of the functions that the laws reach: each shows that a call returns what its plain model says, wherever the model gives an answer. -/
import Derived.Test.YtlihmahekidkaaaGreatDoorF1

namespace Go.Proofs.YtlihmahekidkaaaGreatDoor
set_option maxRecDepth 100000
set_option linter.unusedVariables false
set_option linter.unusedSimpArgs false
set_option linter.unusedSectionVars false
open Go Eng
def udp_wrong.k1 (r2 : Int) (x21 : Bool) : Option (Int × Int) :=
 bif x21 then
  some (3, 0)
 else
  some (4, i64 r2)
def udp_wrong.f (k : Nat) (a0 : Int) (a1 : Int) (a2 : ByteArray) : Option (Int × Int) :=
 bif decide ((a2.size : Int) < 8) then
  some (0, 0)
 else
  (octets_Get.f k a2 4 2).bind fun (r2, r3) =>
  (octets_Get.f k a2 6 2).bind fun (r5, r6) =>
  bif decide ((i64 r2) < 8) then
   some (1, 0)
  else
   bif decide ((i64 r2) > (a2.size : Int)) then
    some (2, 0)
   else
    bif (r5 != 0) then
     (csum_Head.f k a0 a1 17 (i64 r2)).bind fun r13 =>
     (sliceS a2 0 (i64 r2)).bind fun t15 =>
     (csum_Right.f k ([r13, t15] : List ByteArray)).bind fun r18 =>
     udp_wrong.k1 r2 (!r18)
    else
     udp_wrong.k1 r2 false
theorem udp_wrong_calls (k : Nat) (a0 : Int) (a1 : Int) (a2 : ByteArray) (r : Int × Int) (h : udp_wrong.f k a0 a1 a2 = some r) : Pure Tryz.prog Glob 312 #[.int .u32 a0, .int .u32 a1, .string a2] (.tuple #[.int .i64 r.1, .int .i64 r.2]) := by
 intro w Z hS
 refine callsS (args := [.int .u32 a0, .int .u32 a1, .string a2]) (L := [(0, .int .u32 a0), (1, .int .u32 a1), (2, .string a2)]) (N := 52) Tryz.func312 hS ?_
 have hM := h
 clear h hS
 unfold udp_wrong.f at hM
 refine WP.less (Φ' := [] ++ Glob) (fun _ h => h) ?_
 refine WP.seq (WP.rn [] [(6, .int .i64 0), (7, .int .i64 0)] ?_)
 refine WP.seq (WP.seq (WP.rn [] [(15, .bool (decide ((a2.size : Int) < 8)))] ?_))
 refine WP.cond (decide ((a2.size : Int) < 8)) rfl rfl (fun c1 => ?_) (fun c1 => ?_)
 ·replace hM := cond_t hM c1
  refine WP.seq (WP.rn [] [(6, .int .i64 0), (7, .int .i64 0)] ?_)
  obtain rfl := Option.some.inj hM
  exact WP.ret [] [] (.tuple #[.int .i64 0, .int .i64 0]) (by kernel_rfl) (fun w' hw => ⟨rfl, (hw.pick [] rfl).less (fun _ h => List.mem_append_right _ h)⟩)
 ·replace hM := cond_f hM c1
  refine WP.skip (WP.seq (WP.region (WL.rn 1 [] [(17, .string a2)] ?_)))
  obtain ⟨⟨r2, r3⟩, h4, hM⟩ := bind_some hM
  dsimp only at hM
  refine WL.callP [] [] (octets_Get_calls k a2 4 2 _ h4) (fun _ h => List.mem_append_right _ h) (by kernel_rfl) (by kernel_rfl) rfl ?_
  refine WL.rn 5 [] [(8, .int .u64 r2)] ?_
  refine WP.done (WP.seq (WP.region (WL.rn 1 [] [(22, .string a2)] ?_)))
  obtain ⟨⟨r5, r6⟩, h7, hM⟩ := bind_some hM
  dsimp only at hM
  refine WL.callP [] [] (octets_Get_calls k a2 6 2 _ h7) (fun _ h => List.mem_append_right _ h) (by kernel_rfl) (by kernel_rfl) rfl ?_
  refine WL.rn 5 [] [(10, .int .u64 r5)] ?_
  refine WP.done (WP.seq (WP.rn [] [(12, .int .i64 (i64 r2))] ?_))
  refine WP.seq (WP.block (WP.seq (WP.rn [] [(28, .bool (decide ((i64 r2) < 8)))] ?_)))
  refine WP.cond (decide ((i64 r2) < 8)) rfl rfl (fun c8 => ?_) (fun c8 => ?_)
  ·replace hM := cond_t hM c8
   refine WP.seq (WP.rn [] [(6, .int .i64 1), (7, .int .i64 0)] ?_)
   obtain rfl := Option.some.inj hM
   exact WP.ret [] [] (.tuple #[.int .i64 1, .int .i64 0]) (by kernel_rfl) (fun w' hw => ⟨rfl, (hw.pick [] rfl).less (fun _ h => List.mem_append_right _ h)⟩)
  ·replace hM := cond_f hM c8
   refine WP.seq (WP.rn [] [(31, .bool (decide ((i64 r2) > (a2.size : Int))))] ?_)
   refine WP.cond (decide ((i64 r2) > (a2.size : Int))) rfl rfl (fun c9 => ?_) (fun c9 => ?_)
   ·replace hM := cond_t hM c9
    refine WP.seq (WP.rn [] [(6, .int .i64 2), (7, .int .i64 0)] ?_)
    obtain rfl := Option.some.inj hM
    exact WP.ret [] [] (.tuple #[.int .i64 2, .int .i64 0]) (by kernel_rfl) (fun w' hw => ⟨rfl, (hw.pick [] rfl).less (fun _ h => List.mem_append_right _ h)⟩)
   ·replace hM := cond_f hM c9
    refine WP.seq ?_
    refine WP.join (σ := Bool) (fun st => udp_wrong.k1 r2 st = some r) (fun st => [(6, .int .i64 0), (7, .int .i64 0), (12, .int .i64 (i64 r2)), (36, .bool st)]) (fun st => Sat w Z [] [] ([] ++ Glob)) (fun st hM => ?_) (fun K1 => ?_)
    ·
     obtain ⟨x21, rfl⟩ : ∃ y, y = st := ⟨st, rfl⟩
     replace hM : udp_wrong.k1 r2 x21 = some r := hM
     unfold udp_wrong.k1 at hM
     try dsimp only
     refine WP.cond x21 rfl rfl (fun c22 => ?_) (fun c22 => ?_)
     ·replace hM := cond_t hM c22
      refine WP.seq (WP.rn [] [(6, .int .i64 3), (7, .int .i64 0)] ?_)
      obtain rfl := Option.some.inj hM
      exact WP.ret [] [] (.tuple #[.int .i64 3, .int .i64 0]) (by kernel_rfl) (fun w' hw => ⟨rfl, (hw.pick [] rfl).less (fun _ h => List.mem_append_right _ h)⟩)
     ·replace hM := cond_f hM c22
      refine WP.skip (WP.leave (WP.seq (WP.rn [] [(6, .int .i64 4), (7, .int .i64 (i64 r2))] ?_)))
      obtain rfl := Option.some.inj hM
      exact WP.ret [] [] (.tuple #[.int .i64 4, .int .i64 (i64 r2)]) (by kernel_rfl) (fun w' hw => ⟨rfl, (hw.pick [] rfl).less (fun _ h => List.mem_append_right _ h)⟩)
    ·
     refine WP.byBool (r5 != 0) (fun c11 => ?_) (fun c11 => ?_)
     ·replace hM := cond_t hM c11
      obtain ⟨r13, h14, hM⟩ := bind_some hM
      obtain ⟨t15, h16, hM⟩ := bind_some hM
      refine WP.sub [0, 1, 2, 6, 7, 10, 12] (L' := [(0, .int .u32 a0), (1, .int .u32 a1), (2, .string a2), (6, .int .i64 0), (7, .int .i64 0), (10, .int .u64 r5), (12, .int .i64 (i64 r2))]) (by kernel_rfl) ?_
      refine WP.mixed (X := Unit) 10 [.val (.int .u64 r5), .val (.bool true), .val (.bool true), .val (.int .u32 a0), .val (.int .u32 a1), .val (.int .i64 (i64 r2)), .val (.string r13), .val (.string a2), .val (.int .i64 (i64 r2)), .val (.string t15)] [] [] (by kernel_rfl) (by kernel_rfl) (by kernel_rfl) (by kernel_rfl) (Heads.val (fun tt Ψ => OpV.run [] [] (by kernel_rfl) (fun _ => by kernel_rfl)) (Heads.val (fun tt Ψ => OpV.cast (congrArg Value.bool c11) (OpV.run [] [] (by kernel_rfl) (fun _ => by kernel_rfl))) (Heads.val (fun tt Ψ => OpV.run [] [] (by kernel_rfl) (fun _ => by kernel_rfl)) (Heads.val (fun tt Ψ => OpV.run [] [] (by kernel_rfl) (fun _ => by kernel_rfl)) (Heads.val (fun tt Ψ => OpV.run [] [] (by kernel_rfl) (fun _ => by kernel_rfl)) (Heads.val (fun tt Ψ => OpV.run [] [] (by kernel_rfl) (fun _ => by kernel_rfl)) (Heads.val (fun tt Ψ => OpV.callF [] [] (fun _ h => (List.mem_append_right _ (List.mem_append_right _ h))) (csum_Head_calls k a0 a1 17 (i64 r2) _ h14)  (fun _ => by kernel_rfl)) (Heads.val (fun tt Ψ => OpV.run [] [] (by kernel_rfl) (fun _ => by kernel_rfl)) (Heads.val (fun tt Ψ => OpV.run [] [] (by kernel_rfl) (fun _ => by kernel_rfl)) (Heads.val (fun tt Ψ => OpV.val (fun _ => run_sliceS_hi (s := a2) (kh := .i64) (h := i64 r2) (by kernel_rfl) (by kernel_rfl) (by kernel_rfl) h16) (by kernel_rfl)) Heads.nil)))))))))) (fun s12 tt => [(37, .int .u64 r5), (38, .bool true), (39, .bool true), (40, .int .u32 a0), (41, .int .u32 a1), (42, .int .i64 (i64 r2)), (43, .string r13), (44, .string a2), (45, .int .i64 (i64 r2)), (46, .string t15), (0, .int .u32 a0), (1, .int .u32 a1), (2, .string a2), (6, .int .i64 0), (7, .int .i64 0), (10, .int .u64 r5), (12, .int .i64 (i64 r2))]) (fun s12 tt => []) (fun tt => ([] ++ []) ++ Glob) (fun _ _ => by kernel_rfl) (fun _ _ => by kernel_rfl) (fun _ => by kernel_rfl) (fun s12 tt => ?_)
      refine WL.rh 1 [] (fun b17 => [(47, .slice (some ⟨b17, 0, none⟩) 2 2)]) (fun b17 => []) (fun b17 => [(b17, .cells #[.string r13, .string t15] 9 (0, 0))]) (fun b17 => ?_)
      refine WL.ice (H' := []) (Row 1 (pl encS) noK (SkL.at b17 2 (fun _ => ())) ([r13, t15] : List ByteArray)) 0 (b := b17) (ob := .cells #[.string r13, .string t15] 9 (0, 0)) (by kernel_rfl) [] [] (by kernel_rfl) (fun w hb hψ => row_of_block hb (fun _ _ => rfl) ⟨[], by kernel_rfl⟩ (Nat.le_of_ble_eq_true rfl) (InK.no _ _)) (by kernel_rfl) ?_
      obtain ⟨r18, h19, hM⟩ := bind_some hM
      refine WL.callP [] [] (csum_Right_calls k (SkL.at b17 2 (fun _ => ())) ([r13, t15] : List ByteArray) _ h19) (sub_pick [0] (by kernel_rfl)) (by kernel_rfl) (by kernel_rfl) rfl ?_
      refine WL.rn 3 [] [(36, .bool (!r18))] ?_
      refine WP.done ?_
      exact WP.sub [6, 7, 12, 36] (by kernel_rfl) (WP.pick [] (by kernel_rfl) (by kernel_rfl) (WP.lessF [] (by kernel_rfl) (K1 (!r18) hM)))
     ·replace hM := cond_f hM c11
      refine WP.sub [0, 1, 2, 6, 7, 10, 12] (L' := [(0, .int .u32 a0), (1, .int .u32 a1), (2, .string a2), (6, .int .i64 0), (7, .int .i64 0), (10, .int .u64 r5), (12, .int .i64 (i64 r2))]) (by kernel_rfl) ?_
      refine WP.mixed (X := Unit) 10 [.val (.int .u64 r5), .val (.bool false), .val (.bool false), .skip, .skip, .skip, .skip, .skip, .skip, .skip] [] [] (by kernel_rfl) (by kernel_rfl) (by kernel_rfl) (by kernel_rfl) (Heads.val (fun tt Ψ => OpV.run [] [] (by kernel_rfl) (fun _ => by kernel_rfl)) (Heads.val (fun tt Ψ => OpV.cast (congrArg Value.bool c11) (OpV.run [] [] (by kernel_rfl) (fun _ => by kernel_rfl))) (Heads.val (fun tt Ψ => OpV.run [] [] (by kernel_rfl) (fun _ => by kernel_rfl)) (Heads.skip (fun _ => by kernel_rfl) (Heads.skip (fun _ => by kernel_rfl) (Heads.skip (fun _ => by kernel_rfl) (Heads.skip (fun _ => by kernel_rfl) (Heads.skip (fun _ => by kernel_rfl) (Heads.skip (fun _ => by kernel_rfl) (Heads.skip (fun _ => by kernel_rfl) Heads.nil)))))))))) (fun s20 tt => [(37, .int .u64 r5), (38, .bool false), (39, .bool false), (40, .tuple #[]), (41, .tuple #[]), (42, .tuple #[]), (43, .tuple #[]), (44, .tuple #[]), (45, .tuple #[]), (46, .tuple #[]), (0, .int .u32 a0), (1, .int .u32 a1), (2, .string a2), (6, .int .i64 0), (7, .int .i64 0), (10, .int .u64 r5), (12, .int .i64 (i64 r2))]) (fun s20 tt => []) (fun tt => ([] ++ []) ++ Glob) (fun _ _ => by kernel_rfl) (fun _ _ => by kernel_rfl) (fun _ => by kernel_rfl) (fun s20 tt => ?_)
      refine WL.rn 5 [] [(36, .bool false)] ?_
      refine WP.done ?_
      exact WP.sub [6, 7, 12, 36] (by kernel_rfl) (WP.pick [] (by kernel_rfl) (by kernel_rfl) (WP.lessF [] (by kernel_rfl) (K1 false hM)))
def udp_Parse.k1 : Option (api_Udp × Int) :=
 some ((api_Udp.mk 0 0 false (⟨#[]⟩ : ByteArray)), 70)
def udp_Parse.f (k : Nat) (a0 : Int) (a1 : Int) (a2 : ByteArray) : Option (api_Udp × Int) :=
 (udp_wrong.f k a0 a1 a2).bind fun (r2, r3) =>
 bif (r2 == 0) then
  udp_Parse.k1
 else
  bif (r2 == 2) then
   udp_Parse.k1
  else
   bif (r2 == 1) then
    some ((api_Udp.mk 0 0 false (⟨#[]⟩ : ByteArray)), 71)
   else
    bif (r2 == 3) then
     some ((api_Udp.mk 0 0 false (⟨#[]⟩ : ByteArray)), 72)
    else
     (octets_Get.f k a2 0 2).bind fun (r9, r10) =>
     (octets_Get.f k a2 2 2).bind fun (r12, r13) =>
     (sliceS a2 6 8).bind fun t16 =>
     (sliceS a2 8 r3).bind fun t18 =>
     some ((api_Udp.mk (i64 r9) (i64 r12) (t16.toList == (⟨#[0, 0]⟩ : ByteArray).toList) t18), 0)
theorem udp_Parse_calls (k : Nat) (a0 : Int) (a1 : Int) (a2 : ByteArray) (r : api_Udp × Int) (h : udp_Parse.f k a0 a1 a2 = some r) : Pure Tryz.prog Glob 249 #[.int .u32 a0, .int .u32 a1, .string a2] (.tuple #[api_Udp.v r.1, .int .i64 r.2]) := by
 intro w Z hS
 refine callsS (args := [.int .u32 a0, .int .u32 a1, .string a2]) (L := [(0, .int .u32 a0), (1, .int .u32 a1), (2, .string a2)]) (N := 54) Tryz.func249 hS ?_
 have hM := h
 clear h hS
 unfold udp_Parse.f at hM
 refine WP.seq ?_
 refine WP.rh [] (fun b1 => [(6, .pointer (some ⟨b1, 0, none⟩)), (7, .int .i64 0)]) (fun b1 => []) (fun b1 => [(b1, .cells #[.int .i64 0, .int .i64 0, .bool false, .string (⟨#[]⟩ : ByteArray)] 82 (0, 0))]) (fun b1 => ?_)
 refine WP.seq (WP.region (WL.rn 3 [] [(15, .int .u32 a0), (16, .int .u32 a1), (17, .string a2)] ?_))
 obtain ⟨⟨r2, r3⟩, h4, hM⟩ := bind_some hM
 dsimp only at hM
 refine WL.callP [] [] (udp_wrong_calls k a0 a1 a2 _ h4) (fun _ h => h) (by kernel_rfl) (by kernel_rfl) rfl ?_
 refine WL.rn 5 [] [(8, .int .i64 r2), (9, .int .i64 r3)] ?_
 refine WP.done (WP.seq (WP.seq (WP.rn [] [(21, .int .i64 r2)] ?_)))
 refine WP.block (WP.seq (WP.block (WP.seq (WP.block (WP.seq ?_)))))
 refine WP.blockJoin (σ := Unit) (fun st => udp_Parse.k1 = some r) (fun st => [(2, .string a2), (6, .pointer (some ⟨b1, 0, none⟩)), (7, .int .i64 0), (9, .int .i64 r3)]) (fun st => Sat w Z [(b1, .cells #[.int .i64 0, .int .i64 0, .bool false, .string (⟨#[]⟩ : ByteArray)] 82 (0, 0))] [] Glob) (fun st hM => ?_) (fun K1 => ?_)
 ·
  replace hM : udp_Parse.k1 = some r := hM
  unfold udp_Parse.k1 at hM
  try dsimp only
  refine WP.seq (WP.seq (WP.rn [0, 0, 0, 0] [(7, .int .i64 70)] ?_))
  obtain rfl := Option.some.inj hM
  exact WP.retQ [0, 0, 0, 0] [b1, b1, b1, b1]
 ·
  refine WP.block (WP.seq (WP.seq (WP.seq (WP.rn [] [(22, .bool (r2 == 0))] ?_))))
  refine WP.cond (r2 == 0) rfl rfl (fun c5 => ?_) (fun c5 => ?_)
  ·replace hM := cond_t hM c5
   refine WP.exit rfl (WP.leave ?_)
   exact WP.sub [2, 6, 7, 9] (by kernel_rfl) (WP.pick [0] (by kernel_rfl) (by kernel_rfl) (K1 () hM))
  ·replace hM := cond_f hM c5
   refine WP.skip (WP.seq (WP.seq (WP.rn [] [(24, .bool (r2 == 2))] ?_)))
   refine WP.cond (r2 == 2) rfl rfl (fun c6 => ?_) (fun c6 => ?_)
   ·replace hM := cond_t hM c6
    refine WP.exit rfl ?_
    exact WP.sub [2, 6, 7, 9] (by kernel_rfl) (WP.pick [0] (by kernel_rfl) (by kernel_rfl) (K1 () hM))
   ·replace hM := cond_f hM c6
    refine WP.skip (WP.seq (WP.seq (WP.rn [] [(26, .bool (r2 == 1))] ?_)))
    refine WP.cond (r2 == 1) rfl rfl (fun c7 => ?_) (fun c7 => ?_)
    ·replace hM := cond_t hM c7
     refine WP.exit rfl (WP.seq (WP.seq (WP.rn [0, 0, 0, 0] [(7, .int .i64 71)] ?_)))
     obtain rfl := Option.some.inj hM
     exact WP.retQ [0, 0, 0, 0] [b1, b1, b1, b1]
    ·replace hM := cond_f hM c7
     refine WP.skip (WP.seq (WP.rn [] [(28, .bool (r2 == 3))] ?_))
     refine WP.cond (r2 == 3) rfl rfl (fun c8 => ?_) (fun c8 => ?_)
     ·replace hM := cond_t hM c8
      refine WP.exit rfl (WP.seq (WP.seq (WP.rn [0, 0, 0, 0] [(7, .int .i64 72)] ?_)))
      obtain rfl := Option.some.inj hM
      exact WP.retQ [0, 0, 0, 0] [b1, b1, b1, b1]
     ·replace hM := cond_f hM c8
      refine WP.skip (WP.exit rfl (WP.seq (WP.region (WL.rn 1 [] [(34, .string a2)] ?_))))
      obtain ⟨⟨r9, r10⟩, h11, hM⟩ := bind_some hM
      dsimp only at hM
      refine WL.callP [] [] (octets_Get_calls k a2 0 2 _ h11) (fun _ h => h) (by kernel_rfl) (by kernel_rfl) rfl ?_
      refine WL.rn 5 [] [(10, .int .u64 r9)] ?_
      refine WP.done (WP.seq (WP.region (WL.rn 1 [] [(39, .string a2)] ?_)))
      obtain ⟨⟨r12, r13⟩, h14, hM⟩ := bind_some hM
      dsimp only at hM
      refine WL.callP [] [] (octets_Get_calls k a2 2 2 _ h14) (fun _ h => h) (by kernel_rfl) (by kernel_rfl) rfl ?_
      refine WL.rn 5 [] [(12, .int .u64 r12)] ?_
      refine WP.done (WP.seq ?_)
      obtain ⟨t16, h17, hM⟩ := bind_some hM
      obtain ⟨t18, h19, hM⟩ := bind_some hM
      refine WP.sub [2, 6, 7, 9, 10, 12] (L' := [(2, .string a2), (6, .pointer (some ⟨b1, 0, none⟩)), (7, .int .i64 0), (9, .int .i64 r3), (10, .int .u64 r9), (12, .int .u64 r12)]) (by kernel_rfl) ?_
      refine WP.mixed (X := Unit) 10 [.val (.int .u64 r9), .val (.int .i64 (i64 r9)), .val (.int .u64 r12), .val (.int .i64 (i64 r12)), .val (.string a2), .val (.string t16), .val (.bool (t16.toList == (⟨#[0, 0]⟩ : ByteArray).toList)), .val (.string a2), .val (.int .i64 r3), .val (.string t18)] [(b1, .cells #[.int .i64 0, .int .i64 0, .bool false, .string (⟨#[]⟩ : ByteArray)] 82 (0, 0))] [] (by kernel_rfl) (by kernel_rfl) (by kernel_rfl) (by kernel_rfl) (Heads.val (fun tt Ψ => OpV.run [] [] (by kernel_rfl) (fun _ => by kernel_rfl)) (Heads.val (fun tt Ψ => OpV.run [] [] (by kernel_rfl) (fun _ => by kernel_rfl)) (Heads.val (fun tt Ψ => OpV.run [] [] (by kernel_rfl) (fun _ => by kernel_rfl)) (Heads.val (fun tt Ψ => OpV.run [] [] (by kernel_rfl) (fun _ => by kernel_rfl)) (Heads.val (fun tt Ψ => OpV.run [] [] (by kernel_rfl) (fun _ => by kernel_rfl)) (Heads.val (fun tt Ψ => OpV.val (fun _ => run_sliceS (s := a2) (kl := .i64) (kh := .i64) (l := 6) (h := 8) (by kernel_rfl) (by kernel_rfl) (by kernel_rfl) (by kernel_rfl) h17) (by kernel_rfl)) (Heads.val (fun tt Ψ => OpV.run [] [] (by kernel_rfl) (fun _ => by kernel_rfl)) (Heads.val (fun tt Ψ => OpV.run [] [] (by kernel_rfl) (fun _ => by kernel_rfl)) (Heads.val (fun tt Ψ => OpV.run [] [] (by kernel_rfl) (fun _ => by kernel_rfl)) (Heads.val (fun tt Ψ => OpV.val (fun _ => run_sliceS (s := a2) (kl := .i64) (kh := .i64) (l := 8) (h := r3) (by kernel_rfl) (by kernel_rfl) (by kernel_rfl) (by kernel_rfl) h19) (by kernel_rfl)) Heads.nil)))))))))) (fun s15 tt => [(43, .int .u64 r9), (44, .int .i64 (i64 r9)), (45, .int .u64 r12), (46, .int .i64 (i64 r12)), (47, .string a2), (48, .string t16), (49, .bool (t16.toList == (⟨#[0, 0]⟩ : ByteArray).toList)), (50, .string a2), (51, .int .i64 r3), (52, .string t18), (2, .string a2), (6, .pointer (some ⟨b1, 0, none⟩)), (7, .int .i64 0), (9, .int .i64 r3), (10, .int .u64 r9), (12, .int .u64 r12)]) (fun s15 tt => [(b1, .cells #[.int .i64 0, .int .i64 0, .bool false, .string (⟨#[]⟩ : ByteArray)] 82 (0, 0))]) (fun tt => Glob) (fun _ _ => by kernel_rfl) (fun _ _ => by kernel_rfl) (fun _ => by kernel_rfl) (fun s15 tt => ?_)
      refine WL.rh 3 [0, 0, 0, 0] (fun _ => [(7, .int .i64 0)]) (fun _ => [(0, 0, [.int .i64 (i64 r9), .int .i64 (i64 r12), .bool (t16.toList == (⟨#[0, 0]⟩ : ByteArray).toList), .string t18])]) (fun _ => []) (fun _ => ?_)
      refine WP.done ?_
      obtain rfl := Option.some.inj hM
      exact WP.retQ [0, 0, 0, 0] [b1, b1, b1, b1]
def addrs_Group.f (a0 : Int) : Option (Bool) :=
 some ((bAnd .u64 a0 1099511627776) != 0)
theorem addrs_Group_calls (a0 : Int) (r : Bool) (h : addrs_Group.f a0 = some r) : Pure Tryz.prog Glob 181 #[.int .u64 a0] (.bool r) := by
 intro w Z hS
 refine callsS (args := [.int .u64 a0]) (L := [(0, .int .u64 a0)]) (N := 6) Tryz.func181 hS ?_
 have hM := h
 clear h hS
 unfold addrs_Group.f at hM
 refine WP.seq (WP.rn [] [(2, .bool false)] ?_)
 refine WP.seq (WP.rn [] [(2, .bool ((bAnd .u64 a0 1099511627776) != 0))] ?_)
 obtain rfl := Option.some.inj hM
 exact WP.retQ [] []
def addrs_Own.k1 (x4 : Bool) : Option (Bool) :=
 some x4
def addrs_Own.f (a0 : Int) : Option (Bool) :=
 bif ((a0 != 0) && (decide (a0 < 281474976710656))) then
  (addrs_Group.f a0).bind fun r2 =>
  addrs_Own.k1 (!r2)
 else
  addrs_Own.k1 false
theorem addrs_Own_calls (a0 : Int) (r : Bool) (h : addrs_Own.f a0 = some r) : Pure Tryz.prog Glob 103 #[.int .u64 a0] (.bool r) := by
 intro w Z hS
 refine callsS (args := [.int .u64 a0]) (L := [(0, .int .u64 a0)]) (N := 14) Tryz.func103 hS ?_
 have hM := h
 clear h hS
 unfold addrs_Own.f at hM
 refine WP.seq (WP.rn [] [(2, .bool false)] ?_)
 refine WP.seq (WP.region (WL.rn 3 [] [(5, .bool (a0 != 0))] ?_))
 refine WL.bo 5 (a0 != 0) 3 [] [] (fun b' => [(8, .bool (b' && (decide (a0 < 281474976710656))))]) ?_
 refine WL.rn 1 [] [(9, .bool ((a0 != 0) && (decide (a0 < 281474976710656))))] ?_
 refine WL.join (σ := Bool) 4 (fun st => addrs_Own.k1 st = some r) (fun st => [(2, .bool false), (13, .bool st)]) (fun st => Sat w Z [] [] Glob) (fun st hM => ?_) (fun K1 => ?_)
 ·
  obtain ⟨x4, rfl⟩ : ∃ y, y = st := ⟨st, rfl⟩
  replace hM : addrs_Own.k1 x4 = some r := hM
  unfold addrs_Own.k1 at hM
  try dsimp only
  refine WL.rn 1 [] [(2, .bool x4)] ?_
  refine WP.done ?_
  obtain rfl := Option.some.inj hM
  exact WP.retQ [] []
 ·
  refine WL.sp 9 ((a0 != 0) && (decide (a0 < 281474976710656))) (fun c1 => ?_) (fun c1 => ?_)
  ·replace hM := cond_t hM c1
   refine WL.rn 1 [] [(10, .int .u64 a0)] ?_
   obtain ⟨r2, h3, hM⟩ := bind_some hM
   refine WL.callP [] [] (addrs_Group_calls a0 _ h3) (fun _ h => h) (by kernel_rfl) (by kernel_rfl) rfl ?_
   refine WL.rn 2 [] [(13, .bool (!r2))] ?_
   exact WL.sub [2, 13] (by kernel_rfl) (WL.pick [] (by kernel_rfl) (by kernel_rfl) (K1 (!r2) hM))
  ·replace hM := cond_f hM c1
   refine WL.rn 4 [] [(13, .bool false)] ?_
   exact WL.sub [2, 13] (by kernel_rfl) (WL.pick [] (by kernel_rfl) (by kernel_rfl) (K1 false hM))
def arp_Check.k1 (a0 : api_Arp) (x5 : Bool) : Option (Int) :=
 bif (x5 || (decide (a0.TMac ≥ 281474976710656))) then
  some 51
 else
  some 0
def arp_Check.f (a0 : api_Arp) : Option (Int) :=
 bif ((a0.Op != 1) && (a0.Op != 2)) then
  arp_Check.k1 a0 true
 else
  (addrs_Own.f a0.SMac).bind fun r3 =>
  arp_Check.k1 a0 (!r3)
theorem arp_Check_calls (a0 : api_Arp) (r : Int) (h : arp_Check.f a0 = some r) : Pure Tryz.prog Glob 143 #[api_Arp.v a0] (.int .i64 r) := by
 intro w Z hS
 refine callsS (args := [api_Arp.v a0]) (L := [(0, api_Arp.v a0)]) (N := 22) Tryz.func143 hS ?_
 have hM := h
 clear h hS
 unfold arp_Check.f at hM
 refine WP.seq ?_
 refine WP.rh [] (fun b1 => [(1, .pointer (some ⟨b1, 0, none⟩)), (2, .int .i64 0)]) (fun b1 => []) (fun b1 => [(b1, api_Arp.o a0)]) (fun b1 => ?_)
 refine WP.seq (WP.seq (WP.region (WL.rn 4 [0] [(6, .bool (a0.Op != 1))] ?_)))
 refine WL.bo 6 (a0.Op != 1) 4 [0] [] (fun b' => [(10, .bool (b' && (a0.Op != 2)))]) ?_
 refine WL.rn 1 [] [(11, .bool ((a0.Op != 1) && (a0.Op != 2)))] ?_
 refine WL.join (σ := Bool) 5 (fun st => arp_Check.k1 a0 st = some r) (fun st => [(1, .pointer (some ⟨b1, 0, none⟩)), (2, .int .i64 0), (16, .bool st)]) (fun st => Sat w Z [(b1, api_Arp.o a0)] [] Glob) (fun st hM => ?_) (fun K1 => ?_)
 ·
  obtain ⟨x5, rfl⟩ : ∃ y, y = st := ⟨st, rfl⟩
  replace hM : arp_Check.k1 a0 x5 = some r := hM
  unfold arp_Check.k1 at hM
  try dsimp only
  refine WL.rn 1 [] [(17, .bool x5)] ?_
  refine WL.bo 17 x5 4 [] [0] (fun b' => [(21, .bool (b' || (decide (a0.TMac ≥ 281474976710656))))]) ?_
  refine WP.done (WP.kp [false] ?_)
  refine WP.cond (x5 || (decide (a0.TMac ≥ 281474976710656))) rfl rfl (fun c6 => ?_) (fun c6 => ?_)
  ·replace hM := cond_t hM c6
   refine WP.seq (WP.rn [] [(2, .int .i64 51)] ?_)
   obtain rfl := Option.some.inj hM
   exact WP.retQ [] []
  ·replace hM := cond_f hM c6
   refine WP.skip (WP.seq (WP.rn [] [(2, .int .i64 0)] ?_))
   obtain rfl := Option.some.inj hM
   exact WP.retQ [] []
 ·
  refine WL.sp 11 ((a0.Op != 1) && (a0.Op != 2)) (fun c2 => ?_) (fun c2 => ?_)
  ·replace hM := cond_t hM c2
   refine WL.rn 5 [] [(16, .bool true)] ?_
   exact WL.sub [1, 2, 16] (by kernel_rfl) (WL.pick [0] (by kernel_rfl) (by kernel_rfl) (K1 true hM))
  ·replace hM := cond_f hM c2
   refine WL.rn 2 [0] [(13, .int .u64 a0.SMac)] ?_
   obtain ⟨r3, h4, hM⟩ := bind_some hM
   refine WL.callP [] [] (addrs_Own_calls a0.SMac _ h4) (fun _ h => h) (by kernel_rfl) (by kernel_rfl) rfl ?_
   refine WL.rn 2 [] [(16, .bool (!r3))] ?_
   exact WL.sub [1, 2, 16] (by kernel_rfl) (WL.pick [0] (by kernel_rfl) (by kernel_rfl) (K1 (!r3) hM))
def arp_Parse_1.f (k : Nat) (a0 : Int) (a1 : ByteArray) (a2 : Int) : Option (Int × Int) :=
 (octets_Get.f k a1 a2 a0).bind fun (r1, r2) =>
 some (r1, i64 (a2 + a0))
theorem arp_Parse_1_calls (k : Nat) (b_0 : Nat) (b_1 : Nat) (a0 : Int) (a1 : ByteArray) (a2 : Int) (r : Int × Int) (h : arp_Parse_1.f k a0 a1 a2 = some r) : Does Tryz.prog 245 #[.int .i64 a0, .pointer (some ⟨b_0, 0, none⟩), .pointer (some ⟨b_1, 0, none⟩)] [(b_0, .cells #[.string a1] 9 (0, 0)), (b_1, .cells #[.int .i64 a2] 3 (0, 0))] Glob (fun _ : Unit => .int .u64 r.1) (fun _ => [(b_0, .cells #[.string a1] 9 (0, 0)), (b_1, .cells #[.int .i64 r.2] 3 (0, 0))]) (fun _ => []) (fun _ => Glob) := by
 intro w Z hS
 refine callsS (args := [.int .i64 a0, .pointer (some ⟨b_0, 0, none⟩), .pointer (some ⟨b_1, 0, none⟩)]) (L := [(0, .int .i64 a0), (1, .pointer (some ⟨b_0, 0, none⟩)), (2, .pointer (some ⟨b_1, 0, none⟩))]) (N := 18) Tryz.func245 hS ?_
 have hM := h
 clear h hS
 unfold arp_Parse_1.f at hM
 refine WP.seq (WP.rn [] [(4, .int .u64 0)] ?_)
 refine WP.seq (WP.region (WL.rn 3 [0, 1] [(8, .string a1), (9, .int .i64 a2), (10, .int .i64 a0)] ?_))
 obtain ⟨⟨r1, r2⟩, h3, hM⟩ := bind_some hM
 dsimp only at hM
 refine WL.callP [] [] (octets_Get_calls k a1 a2 a0 _ h3) (fun _ h => h) (by kernel_rfl) (by kernel_rfl) rfl ?_
 refine WL.rn 5 [] [(5, .int .u64 r1)] ?_
 refine WP.done (WP.seq ?_)
 refine WP.rh [1, 1] (fun _ => []) (fun _ => [(1, 0, [.int .i64 (i64 (a2 + a0))])]) (fun _ => []) (fun _ => ?_)
 refine WP.seq (WP.rn [] [(4, .int .u64 r1)] ?_)
 obtain rfl := Option.some.inj hM
 exact WP.ret [] [] (.int .u64 r1) (by kernel_rfl) (fun w' hw => ⟨(), rfl, hw.pick [0, 1] (by kernel_rfl)⟩)
def stringslite_HasPrefix.k1 (x4 : Bool) : Option (Bool) :=
 some x4
def stringslite_HasPrefix.f (a0 : ByteArray) (a1 : ByteArray) : Option (Bool) :=
 bif decide ((a0.size : Int) ≥ (a1.size : Int)) then
  (sliceS a0 0 (a1.size : Int)).bind fun t2 =>
  stringslite_HasPrefix.k1 (t2.toList == a1.toList)
 else
  stringslite_HasPrefix.k1 false
theorem stringslite_HasPrefix_calls (a0 : ByteArray) (a1 : ByteArray) (r : Bool) (h : stringslite_HasPrefix.f a0 a1 = some r) : Pure Tryz.prog Glob 309 #[.string a0, .string a1] (.bool r) := by
 intro w Z hS
 refine callsS (args := [.string a0, .string a1]) (L := [(0, .string a0), (1, .string a1)]) (N := 18) Tryz.func309 hS ?_
 have hM := h
 clear h hS
 unfold stringslite_HasPrefix.f at hM
 refine WP.seq (WP.rn [] [(4, .bool false)] ?_)
 refine WP.seq (WP.region (WL.rn 6 [] [(10, .bool (decide ((a0.size : Int) ≥ (a1.size : Int))))] ?_))
 refine WL.join (σ := Bool) 7 (fun st => stringslite_HasPrefix.k1 st = some r) (fun st => [(4, .bool false), (17, .bool st)]) (fun st => Sat w Z [] [] Glob) (fun st hM => ?_) (fun K1 => ?_)
 ·
  obtain ⟨x4, rfl⟩ : ∃ y, y = st := ⟨st, rfl⟩
  replace hM : stringslite_HasPrefix.k1 x4 = some r := hM
  unfold stringslite_HasPrefix.k1 at hM
  try dsimp only
  refine WL.rn 1 [] [(4, .bool x4)] ?_
  refine WP.done ?_
  obtain rfl := Option.some.inj hM
  exact WP.retQ [] []
 ·
  refine WL.sp 10 (decide ((a0.size : Int) ≥ (a1.size : Int))) (fun c1 => ?_) (fun c1 => ?_)
  ·replace hM := cond_t hM c1
   refine WL.rn 3 [] [(11, .string a0), (13, .int .i64 (a1.size : Int))] ?_
   obtain ⟨t2, h3, hM⟩ := bind_some hM
   refine WL.val (fun _ => run_sliceS_hi (s := a0) (kh := .i64) (h := (a1.size : Int)) (by kernel_rfl) (by kernel_rfl) (by kernel_rfl) h3) (by kernel_rfl) (by kernel_rfl) rfl ?_
   refine WL.rn 3 [] [(17, .bool (t2.toList == a1.toList))] ?_
   exact WL.sub [4, 17] (by kernel_rfl) (WL.pick [] (by kernel_rfl) (by kernel_rfl) (K1 (t2.toList == a1.toList) hM))
  ·replace hM := cond_f hM c1
   refine WL.rn 7 [] [(17, .bool false)] ?_
   exact WL.sub [4, 17] (by kernel_rfl) (WL.pick [] (by kernel_rfl) (by kernel_rfl) (K1 false hM))
def strings_HasPrefix.f (a0 : ByteArray) (a1 : ByteArray) : Option (Bool) :=
 (stringslite_HasPrefix.f a0 a1).bind fun r1 =>
 some r1
theorem strings_HasPrefix_calls (a0 : ByteArray) (a1 : ByteArray) (r : Bool) (h : strings_HasPrefix.f a0 a1 = some r) : Pure Tryz.prog Glob 246 #[.string a0, .string a1] (.bool r) := by
 intro w Z hS
 refine callsS (args := [.string a0, .string a1]) (L := [(0, .string a0), (1, .string a1)]) (N := 8) Tryz.func246 hS ?_
 have hM := h
 clear h hS
 unfold strings_HasPrefix.f at hM
 refine WP.seq (WP.rn [] [(4, .bool false)] ?_)
 refine WP.seq (WP.region (WL.rn 2 [] [(5, .string a0), (6, .string a1)] ?_))
 obtain ⟨r1, h2, hM⟩ := bind_some hM
 refine WL.callP [] [] (stringslite_HasPrefix_calls a0 a1 _ h2) (fun _ h => h) (by kernel_rfl) (by kernel_rfl) rfl ?_
 refine WL.rn 1 [] [(4, .bool r1)] ?_
 refine WP.done ?_
 obtain rfl := Option.some.inj hM
 exact WP.retQ [] []
def arp_Parse.k1 (r4 : Int) (r7 : Int) (r10 : Int) (r13 : Int) (r16 : Int) (x25 : Bool) : Option (api_Arp × Int) :=
 bif x25 then
  some ((api_Arp.mk 0 0 0 0 0), 51)
 else
  some ((api_Arp.mk (i64 r4) r7 (u32 r10) r13 (u32 r16)), 0)
def arp_Parse.f (k : Nat) (a0 : ByteArray) : Option (api_Arp × Int) :=
 bif decide ((a0.size : Int) < 28) then
  some ((api_Arp.mk 0 0 0 0 0), 50)
 else
  (arp_Parse_1.f k 2 a0 6).bind fun (r4, r5) =>
  (arp_Parse_1.f k 6 a0 r5).bind fun (r7, r8) =>
  (arp_Parse_1.f k 4 a0 r8).bind fun (r10, r11) =>
  (arp_Parse_1.f k 6 a0 r11).bind fun (r13, r14) =>
  (arp_Parse_1.f k 4 a0 r14).bind fun (r16, r17) =>
  (strings_HasPrefix.f a0 (⟨#[0, 1, 8, 0, 6, 4]⟩ : ByteArray)).bind fun r20 =>
  bif !r20 then
   arp_Parse.k1 r4 r7 r10 r13 r16 true
  else
   (arp_Check.f (api_Arp.mk (i64 r4) r7 (u32 r10) r13 (u32 r16))).bind fun r23 =>
   arp_Parse.k1 r4 r7 r10 r13 r16 (r23 != 0)
theorem arp_Parse_calls (k : Nat) (a0 : ByteArray) (r : api_Arp × Int) (h : arp_Parse.f k a0 = some r) : Pure Tryz.prog Glob 155 #[.string a0] (.tuple #[api_Arp.v r.1, .int .i64 r.2]) := by
 intro w Z hS
 refine callsS (args := [.string a0]) (L := [(0, .string a0)]) (N := 36) Tryz.func155 hS ?_
 have hM := h
 clear h hS
 unfold arp_Parse.f at hM
 refine WP.seq ?_
 refine WP.rh [] (fun b1 => [(1, .pointer (some ⟨b1, 0, none⟩)), (2, .pointer (some ⟨(b1 + 1), 0, none⟩)), (3, .int .i64 0)]) (fun b1 => []) (fun b1 => [(b1, .cells #[.string a0] 9 (0, 0)), ((b1 + 1), .cells #[.int .i64 0, .int .u64 0, .int .u32 0, .int .u64 0, .int .u32 0] 50 (0, 0))]) (fun b1 => ?_)
 refine WP.seq (WP.seq (WP.rn [0] [(9, .bool (decide ((a0.size : Int) < 28)))] ?_))
 refine WP.cond (decide ((a0.size : Int) < 28)) rfl rfl (fun c2 => ?_) (fun c2 => ?_)
 ·replace hM := cond_t hM c2
  refine WP.seq (WP.rn [1, 1, 1, 1, 1] [(3, .int .i64 50)] ?_)
  obtain rfl := Option.some.inj hM
  exact WP.retQ [1, 1, 1, 1, 1] [(b1 + 1), (b1 + 1), (b1 + 1), (b1 + 1), (b1 + 1)]
 ·replace hM := cond_f hM c2
  refine WP.skip (WP.seq ?_)
  refine WP.rh [2] (fun b3 => [(4, .pointer (some ⟨b3, 0, none⟩))]) (fun b3 => []) (fun b3 => [(b3, .cells #[.int .i64 6] 3 (0, 0))]) (fun b3 => ?_)
  refine WP.seq ?_
  refine WP.rn [] [(5, .func (.func 245) #[] #[.pointer (some ⟨b1, 0, none⟩), .pointer (some ⟨b3, 0, none⟩)])] ?_
  refine WP.seq (WP.region ?_)
  refine WL.rn 1 [] [(12, .func (.func 245) #[] #[.pointer (some ⟨b1, 0, none⟩), .pointer (some ⟨b3, 0, none⟩)])] ?_
  obtain ⟨⟨r4, r5⟩, h6, hM⟩ := bind_some hM
  dsimp only at hM
  refine WL.callE (X := Unit) [] [] [true, false, true] (fun _ => _) (arp_Parse_1_calls k b1 b3 2 a0 6 _ h6) rfl rfl (fun _ h => h) (by kernel_rfl) (by kernel_rfl) (fun _ => rfl) (fun _ => ?_)
  refine WL.rn 2 [] [(14, .int .i64 (i64 r4)), (15, .func (.func 245) #[] #[.pointer (some ⟨b1, 0, none⟩), .pointer (some ⟨b3, 0, none⟩)])] ?_
  obtain ⟨⟨r7, r8⟩, h9, hM⟩ := bind_some hM
  dsimp only at hM
  refine WL.callE (X := Unit) [] [] [true, true, false] (fun _ => _) (arp_Parse_1_calls k b1 b3 6 a0 r5 _ h9) rfl rfl (fun _ h => h) (by kernel_rfl) (by kernel_rfl) (fun _ => rfl) (fun _ => ?_)
  refine WL.rn 1 [] [(17, .func (.func 245) #[] #[.pointer (some ⟨b1, 0, none⟩), .pointer (some ⟨b3, 0, none⟩)])] ?_
  obtain ⟨⟨r10, r11⟩, h12, hM⟩ := bind_some hM
  dsimp only at hM
  refine WL.callE (X := Unit) [] [] [true, true, false] (fun _ => _) (arp_Parse_1_calls k b1 b3 4 a0 r8 _ h12) rfl rfl (fun _ h => h) (by kernel_rfl) (by kernel_rfl) (fun _ => rfl) (fun _ => ?_)
  refine WL.rn 2 [] [(19, .int .u32 (u32 r10)), (20, .func (.func 245) #[] #[.pointer (some ⟨b1, 0, none⟩), .pointer (some ⟨b3, 0, none⟩)])] ?_
  obtain ⟨⟨r13, r14⟩, h15, hM⟩ := bind_some hM
  dsimp only at hM
  refine WL.callE (X := Unit) [] [] [true, true, false] (fun _ => _) (arp_Parse_1_calls k b1 b3 6 a0 r11 _ h15) rfl rfl (fun _ h => h) (by kernel_rfl) (by kernel_rfl) (fun _ => rfl) (fun _ => ?_)
  refine WL.rn 1 [] [(22, .func (.func 245) #[] #[.pointer (some ⟨b1, 0, none⟩), .pointer (some ⟨b3, 0, none⟩)])] ?_
  obtain ⟨⟨r16, r17⟩, h18, hM⟩ := bind_some hM
  dsimp only at hM
  refine WL.callE (X := Unit) [] [] [true, true, false] (fun _ => _) (arp_Parse_1_calls k b1 b3 4 a0 r14 _ h18) rfl rfl (fun _ h => h) (by kernel_rfl) (by kernel_rfl) (fun _ => rfl) (fun _ => ?_)
  refine WL.rh 4 [3, 3, 3, 3, 3] (fun b19 => [(6, .pointer (some ⟨b19, 0, none⟩))]) (fun b19 => []) (fun b19 => [(b19, .cells #[.int .i64 (i64 r4), .int .u64 r7, .int .u32 (u32 r10), .int .u64 r13, .int .u32 (u32 r16)] 50 (0, 0))]) (fun b19 => ?_)
  refine WP.done (WP.kp [true, false, true, true] ?_)
  refine WP.seq (WP.seq (WP.region (WL.rn 1 [0] [(26, .string a0)] ?_)))
  obtain ⟨r20, h21, hM⟩ := bind_some hM
  refine WL.callP [] [] (strings_HasPrefix_calls a0 (⟨#[0, 1, 8, 0, 6, 4]⟩ : ByteArray) _ h21) (fun _ h => h) (by kernel_rfl) (by kernel_rfl) rfl ?_
  refine WL.rn 2 [] [(29, .bool (!r20))] ?_
  refine WL.join (σ := Bool) 4 (fun st => arp_Parse.k1 r4 r7 r10 r13 r16 st = some r) (fun st => [(2, .pointer (some ⟨(b1 + 1), 0, none⟩)), (3, .int .i64 0), (6, .pointer (some ⟨b19, 0, none⟩)), (33, .bool st)]) (fun st => Sat w Z [((b1 + 1), .cells #[.int .i64 0, .int .u64 0, .int .u32 0, .int .u64 0, .int .u32 0] 50 (0, 0)), (b19, .cells #[.int .i64 (i64 r4), .int .u64 r7, .int .u32 (u32 r10), .int .u64 r13, .int .u32 (u32 r16)] 50 (0, 0))] [] Glob) (fun st hM => ?_) (fun K1 => ?_)
  ·
   obtain ⟨x25, rfl⟩ : ∃ y, y = st := ⟨st, rfl⟩
   replace hM : arp_Parse.k1 r4 r7 r10 r13 r16 x25 = some r := hM
   unfold arp_Parse.k1 at hM
   try dsimp only
   refine WP.done ?_
   refine WP.cond x25 rfl rfl (fun c26 => ?_) (fun c26 => ?_)
   ·replace hM := cond_t hM c26
    refine WP.seq (WP.rn [0, 0, 0, 0, 0] [(3, .int .i64 51)] ?_)
    obtain rfl := Option.some.inj hM
    exact WP.retQ [0, 0, 0, 0, 0] [(b1 + 1), (b1 + 1), (b1 + 1), (b1 + 1), (b1 + 1)]
   ·replace hM := cond_f hM c26
    refine WP.skip (WP.seq ?_)
    refine WP.rh [1, 1, 1, 1, 1, 0, 0, 0, 0, 0] (fun _ => [(3, .int .i64 0)]) (fun _ => [(0, 0, [.int .i64 (i64 r4), .int .u64 r7, .int .u32 (u32 r10), .int .u64 r13, .int .u32 (u32 r16)])]) (fun _ => []) (fun _ => ?_)
    refine WP.kp [true, false] ?_
    obtain rfl := Option.some.inj hM
    exact WP.retQ [0, 0, 0, 0, 0] [(b1 + 1), (b1 + 1), (b1 + 1), (b1 + 1), (b1 + 1)]
  ·
   refine WL.sp 29 (!r20) (fun c22 => ?_) (fun c22 => ?_)
   ·replace hM := cond_t hM c22
    refine WL.rn 4 [] [(33, .bool true)] ?_
    exact WL.sub [2, 3, 6, 33] (by kernel_rfl) (WL.pick [1, 2] (by kernel_rfl) (by kernel_rfl) (K1 true hM))
   ·replace hM := cond_f hM c22
    refine WL.rn 1 [2, 2, 2, 2, 2] [(30, .agg #[.int .i64 (i64 r4), .int .u64 r7, .int .u32 (u32 r10), .int .u64 r13, .int .u32 (u32 r16)])] ?_
    obtain ⟨r23, h24, hM⟩ := bind_some hM
    refine WL.callP [] [] (arp_Check_calls (api_Arp.mk (i64 r4) r7 (u32 r10) r13 (u32 r16)) _ h24) (fun _ h => h) (by kernel_rfl) (by kernel_rfl) rfl ?_
    refine WL.rn 2 [] [(33, .bool (r23 != 0))] ?_
    exact WL.sub [2, 3, 6, 33] (by kernel_rfl) (WL.pick [1, 2] (by kernel_rfl) (by kernel_rfl) (K1 (r23 != 0) hM))
def arp_Of.f (k : Nat) (a0 : api_Frame) : Option (api_Arp × Bool) :=
 bif (a0.Type_ != 2054) then
  some ((api_Arp.mk 0 0 0 0 0), false)
 else
  (arp_Parse.f k a0.Body).bind fun (r3, r4) =>
  some (r3, (r4 == 0))
theorem arp_Of_calls (k : Nat) (a0 : api_Frame) (r : api_Arp × Bool) (h : arp_Of.f k a0 = some r) : Pure Tryz.prog Glob 72 #[api_Frame.v a0] (.tuple #[api_Arp.v r.1, .bool r.2]) := by
 intro w Z hS
 refine callsS (args := [api_Frame.v a0]) (L := [(0, api_Frame.v a0)]) (N := 19) Tryz.func72 hS ?_
 have hM := h
 clear h hS
 unfold arp_Of.f at hM
 refine WP.seq ?_
 refine WP.rh [] (fun b1 => [(1, .pointer (some ⟨b1, 0, none⟩)), (2, .pointer (some ⟨(b1 + 1), 0, none⟩)), (3, .bool false)]) (fun b1 => []) (fun b1 => [(b1, api_Frame.o a0), ((b1 + 1), .cells #[.int .i64 0, .int .u64 0, .int .u32 0, .int .u64 0, .int .u32 0] 50 (0, 0))]) (fun b1 => ?_)
 refine WP.seq (WP.seq (WP.rn [0] [(8, .bool (a0.Type_ != 2054))] ?_))
 refine WP.cond (a0.Type_ != 2054) rfl rfl (fun c2 => ?_) (fun c2 => ?_)
 ·replace hM := cond_t hM c2
  refine WP.seq (WP.rn [1, 1, 1, 1, 1] [(3, .bool false)] ?_)
  obtain rfl := Option.some.inj hM
  exact WP.retQ [1, 1, 1, 1, 1] [(b1 + 1), (b1 + 1), (b1 + 1), (b1 + 1), (b1 + 1)]
 ·replace hM := cond_f hM c2
  refine WP.skip (WP.seq (WP.region (WL.rn 2 [0] [(12, .string a0.Body)] ?_)))
  obtain ⟨⟨r3, r4⟩, h5, hM⟩ := bind_some hM
  dsimp only at hM
  refine WL.callP [] [] (arp_Parse_calls k a0.Body _ h5) (fun _ h => h) (by kernel_rfl) (by kernel_rfl) rfl ?_
  refine WL.rh 6 [2, 2, 2, 2, 2] (fun b6 => [(4, .pointer (some ⟨b6, 0, none⟩)), (5, .int .i64 r4)]) (fun b6 => []) (fun b6 => [(b6, api_Arp.o r3)]) (fun b6 => ?_)
  refine WP.done (WP.kp [false, true, true] ?_)
  refine WP.seq ?_
  refine WP.rh [1, 1, 1, 1, 1, 0, 0, 0, 0, 0] (fun _ => [(3, .bool (r4 == 0))]) (fun _ => [(0, 0, [.int .i64 r3.Op, .int .u64 r3.SMac, .int .u32 r3.SIp, .int .u64 r3.TMac, .int .u32 r3.TIp])]) (fun _ => []) (fun _ => ?_)
  refine WP.kp [true, false] ?_
  obtain rfl := Option.some.inj hM
  exact WP.retQ [0, 0, 0, 0, 0] [(b1 + 1), (b1 + 1), (b1 + 1), (b1 + 1), (b1 + 1)]
def suppress_honest.f (k : Nat) (a0 : api_Frame) : Option (api_Arp × Bool) :=
 (arp_Of.f k a0).bind fun (r2, r3) =>
 bif ((!r3) || (r2.SMac != a0.Src)) then
  some ((api_Arp.mk 0 0 0 0 0), false)
 else
  some (r2, true)
theorem suppress_honest_calls (k : Nat) (a0 : api_Frame) (r : api_Arp × Bool) (h : suppress_honest.f k a0 = some r) : Pure Tryz.prog Glob 290 #[api_Frame.v a0] (.tuple #[api_Arp.v r.1, .bool r.2]) := by
 intro w Z hS
 refine callsS (args := [api_Frame.v a0]) (L := [(0, api_Frame.v a0)]) (N := 22) Tryz.func290 hS ?_
 have hM := h
 clear h hS
 unfold suppress_honest.f at hM
 refine WP.seq ?_
 refine WP.rh [] (fun b1 => [(1, .pointer (some ⟨b1, 0, none⟩)), (2, .pointer (some ⟨(b1 + 1), 0, none⟩)), (3, .bool false)]) (fun b1 => []) (fun b1 => [(b1, api_Frame.o a0), ((b1 + 1), .cells #[.int .i64 0, .int .u64 0, .int .u32 0, .int .u64 0, .int .u32 0] 50 (0, 0))]) (fun b1 => ?_)
 refine WP.seq (WP.region (WL.rn 1 [0, 0, 0, 0, 0, 0, 0, 0] [(7, api_Frame.v a0)] ?_))
 obtain ⟨⟨r2, r3⟩, h4, hM⟩ := bind_some hM
 dsimp only at hM
 refine WL.callP [] [] (arp_Of_calls k a0 _ h4) (fun _ h => h) (by kernel_rfl) (by kernel_rfl) rfl ?_
 refine WL.rh 6 [2, 2, 2, 2, 2] (fun b5 => [(4, .pointer (some ⟨b5, 0, none⟩)), (5, .bool r3)]) (fun b5 => []) (fun b5 => [(b5, api_Arp.o r2)]) (fun b5 => ?_)
 refine WP.done (WP.seq (WP.seq (WP.region (WL.rn 3 [] [(13, .bool (!r3))] ?_))))
 refine WL.bo 13 (!r3) 6 [] [2, 0] (fun b' => [(19, .bool (b' || (r2.SMac != a0.Src)))]) ?_
 refine WP.done (WP.kp [false, true, true] ?_)
 refine WP.cond ((!r3) || (r2.SMac != a0.Src)) rfl rfl (fun c6 => ?_) (fun c6 => ?_)
 ·replace hM := cond_t hM c6
  refine WP.seq (WP.rn [0, 0, 0, 0, 0] [(3, .bool false)] ?_)
  obtain rfl := Option.some.inj hM
  exact WP.retQ [0, 0, 0, 0, 0] [(b1 + 1), (b1 + 1), (b1 + 1), (b1 + 1), (b1 + 1)]
 ·replace hM := cond_f hM c6
  refine WP.skip (WP.seq ?_)
  refine WP.rh [1, 1, 1, 1, 1, 0, 0, 0, 0, 0] (fun _ => [(3, .bool true)]) (fun _ => [(0, 0, [.int .i64 r2.Op, .int .u64 r2.SMac, .int .u32 r2.SIp, .int .u64 r2.TMac, .int .u32 r2.TIp])]) (fun _ => []) (fun _ => ?_)
  refine WP.kp [true, false] ?_
  obtain rfl := Option.some.inj hM
  exact WP.retQ [0, 0, 0, 0, 0] [(b1 + 1), (b1 + 1), (b1 + 1), (b1 + 1), (b1 + 1)]
def gangwayref01_Num.l1 (a0 : ByteArray) : Nat → Int → Int → Option (Int)
 | 0, _, _ => none
 | n + 1, x1, x2 =>
  bif decide (x2 < (a0.size : Int)) then
   (idxS a0 x2).bind fun t4 =>
   gangwayref01_Num.l1 a0 n (u64 ((u64 (x1 * 256)) + (u64 t4))) (i64 (x2 + 1))
  else
   some x1
def gangwayref01_Num.f (k : Nat) (a0 : ByteArray) : Option (Int) :=
 gangwayref01_Num.l1 a0 k 0 0
theorem gangwayref01_Num_calls (k : Nat) (a0 : ByteArray) (r : Int) (h : gangwayref01_Num.f k a0 = some r) : Pure Tryz.prog Glob 162 #[.string a0] (.int .u64 r) := by
 intro w Z hS
 refine callsS (args := [.string a0]) (L := [(0, .string a0)]) (N := 19) Tryz.func162 hS ?_
 have hM := h
 clear h hS
 unfold gangwayref01_Num.f at hM
 refine WP.seq (WP.rn [] [(2, .int .u64 0)] ?_)
 refine WP.seq (WP.rn [] [(3, .int .u64 0)] ?_)
 refine WP.seq (WP.seq (WP.rn [] [(4, .int .i64 0)] ?_))
 refine WP.block (WP.sub [0, 2, 3, 4] (L' := [(0, .string a0), (2, .int .u64 0), (3, .int .u64 0), (4, .int .i64 0)]) (by kernel_rfl) ?_)
 refine WP.loop (σ := Int × Int) (fun n st => gangwayref01_Num.l1 a0 n st.1 st.2) r (fun st => [(0, .string a0), (2, .int .u64 0), (3, .int .u64 st.1), (4, .int .i64 st.2)]) (fun st => Sat w Z [] [] Glob) (st := (0, 0)) (fun n st hM => ?_) hM
 rcases n with _ | n
 ·exact nomatch (show (none : Option _) = some r from hM)
 obtain ⟨x1, x2⟩ := st
 replace hM : gangwayref01_Num.l1 a0 (n + 1) x1 x2 = some r := hM
 rw [gangwayref01_Num.l1] at hM
 try dsimp only
 refine WP.seq (WP.seq (WP.rn [] [(5, .int .i64 x2), (6, .string a0), (7, .int .i64 (a0.size : Int)), (8, .bool (decide (x2 < (a0.size : Int))))] ?_))
 refine WP.cond (decide (x2 < (a0.size : Int))) rfl rfl (fun c3 => ?_) (fun c3 => ?_)
 ·replace hM := cond_t hM c3
  refine WP.skip (WP.seq (WP.block (WP.region (WL.rn 4 [] [(11, .int .u64 x1), (12, .int .u64 (u64 (x1 * 256))), (13, .string a0), (14, .int .i64 x2)] ?_))))
  obtain ⟨t4, h5, hM⟩ := bind_some hM
  refine WL.val (fun _ => run_idxS (s := a0) (k := .i64) (i := x2) (by kernel_rfl) (by kernel_rfl) (by kernel_rfl) h5) (by kernel_rfl) (by kernel_rfl) rfl ?_
  refine WL.rn 3 [] [(3, .int .u64 (u64 ((u64 (x1 * 256)) + (u64 t4)))), (16, .int .u64 (u64 t4)), (17, .int .u64 (u64 ((u64 (x1 * 256)) + (u64 t4))))] ?_
  refine WP.done (WP.leave (WP.rn [] [(4, .int .i64 (i64 (x2 + 1))), (9, .int .i64 x2), (10, .int .i64 (i64 (x2 + 1)))] ?_))
  exact WP.again' [0, 2, 3, 4] (u64 ((u64 (x1 * 256)) + (u64 t4)), i64 (x2 + 1)) hM (by kernel_rfl) (fun _ h => h.pick [] (by kernel_rfl))
 ·replace hM := cond_f hM c3
  refine WP.exit rfl (WP.seq (WP.rn [] [(2, .int .u64 x1)] ?_))
  obtain rfl := Option.some.inj hM
  exact WP.retQ [] []
def gangwayref02_Group.f (a0 : Int) : Option (Bool) :=
 some ((Int.tmod (u64 (Int.tdiv a0 1099511627776)) 2) == 1)
theorem gangwayref02_Group_calls (a0 : Int) (r : Bool) (h : gangwayref02_Group.f a0 = some r) : Pure Tryz.prog Glob 83 #[.int .u64 a0] (.bool r) := by
 intro w Z hS
 refine callsS (args := [.int .u64 a0]) (L := [(0, .int .u64 a0)]) (N := 7) Tryz.func83 hS ?_
 have hM := h
 clear h hS
 unfold gangwayref02_Group.f at hM
 refine WP.seq (WP.rn [] [(2, .bool false)] ?_)
 refine WP.seq (WP.rn [] [(2, .bool ((Int.tmod (u64 (Int.tdiv a0 1099511627776)) 2) == 1))] ?_)
 obtain rfl := Option.some.inj hM
 exact WP.retQ [] []
def gangwayref02_Own.k1 (x4 : Bool) : Option (Bool) :=
 some x4
def gangwayref02_Own.f (a0 : Int) : Option (Bool) :=
 bif ((decide (a0 > 0)) && (decide (a0 < 281474976710656))) then
  (gangwayref02_Group.f a0).bind fun r2 =>
  gangwayref02_Own.k1 (!r2)
 else
  gangwayref02_Own.k1 false
theorem gangwayref02_Own_calls (a0 : Int) (r : Bool) (h : gangwayref02_Own.f a0 = some r) : Pure Tryz.prog Glob 38 #[.int .u64 a0] (.bool r) := by
 intro w Z hS
 refine callsS (args := [.int .u64 a0]) (L := [(0, .int .u64 a0)]) (N := 14) Tryz.func38 hS ?_
 have hM := h
 clear h hS
 unfold gangwayref02_Own.f at hM
 refine WP.seq (WP.rn [] [(2, .bool false)] ?_)
 refine WP.seq (WP.region (WL.rn 3 [] [(5, .bool (decide (a0 > 0)))] ?_))
 refine WL.bo 5 (decide (a0 > 0)) 3 [] [] (fun b' => [(8, .bool (b' && (decide (a0 < 281474976710656))))]) ?_
 refine WL.rn 1 [] [(9, .bool ((decide (a0 > 0)) && (decide (a0 < 281474976710656))))] ?_
 refine WL.join (σ := Bool) 4 (fun st => gangwayref02_Own.k1 st = some r) (fun st => [(2, .bool false), (13, .bool st)]) (fun st => Sat w Z [] [] Glob) (fun st hM => ?_) (fun K1 => ?_)
 ·
  obtain ⟨x4, rfl⟩ : ∃ y, y = st := ⟨st, rfl⟩
  replace hM : gangwayref02_Own.k1 x4 = some r := hM
  unfold gangwayref02_Own.k1 at hM
  try dsimp only
  refine WL.rn 1 [] [(2, .bool x4)] ?_
  refine WP.done ?_
  obtain rfl := Option.some.inj hM
  exact WP.retQ [] []
 ·
  refine WL.sp 9 ((decide (a0 > 0)) && (decide (a0 < 281474976710656))) (fun c1 => ?_) (fun c1 => ?_)
  ·replace hM := cond_t hM c1
   refine WL.rn 1 [] [(10, .int .u64 a0)] ?_
   obtain ⟨r2, h3, hM⟩ := bind_some hM
   refine WL.callP [] [] (gangwayref02_Group_calls a0 _ h3) (fun _ h => h) (by kernel_rfl) (by kernel_rfl) rfl ?_
   refine WL.rn 2 [] [(13, .bool (!r2))] ?_
   exact WL.sub [2, 13] (by kernel_rfl) (WL.pick [] (by kernel_rfl) (by kernel_rfl) (K1 (!r2) hM))
  ·replace hM := cond_f hM c1
   refine WL.rn 4 [] [(13, .bool false)] ?_
   exact WL.sub [2, 13] (by kernel_rfl) (WL.pick [] (by kernel_rfl) (by kernel_rfl) (K1 false hM))
def gangwayref05_Check.k1 (a0 : api_Arp) (x5 : Bool) : Option (Int) :=
 bif (x5 || ((Int.fdiv a0.TMac 281474976710656) != 0)) then
  some 51
 else
  some 0
def gangwayref05_Check.f (a0 : api_Arp) : Option (Int) :=
 bif ((decide (a0.Op < 1)) || (decide (a0.Op > 2))) then
  gangwayref05_Check.k1 a0 true
 else
  (gangwayref02_Own.f a0.SMac).bind fun r3 =>
  gangwayref05_Check.k1 a0 (!r3)
theorem gangwayref05_Check_calls (a0 : api_Arp) (r : Int) (h : gangwayref05_Check.f a0 = some r) : Pure Tryz.prog Glob 37 #[api_Arp.v a0] (.int .i64 r) := by
 intro w Z hS
 refine callsS (args := [api_Arp.v a0]) (L := [(0, api_Arp.v a0)]) (N := 23) Tryz.func37 hS ?_
 have hM := h
 clear h hS
 unfold gangwayref05_Check.f at hM
 refine WP.seq ?_
 refine WP.rh [] (fun b1 => [(1, .pointer (some ⟨b1, 0, none⟩)), (2, .int .i64 0)]) (fun b1 => []) (fun b1 => [(b1, api_Arp.o a0)]) (fun b1 => ?_)
 refine WP.seq (WP.seq (WP.region (WL.rn 4 [0] [(6, .bool (decide (a0.Op < 1)))] ?_)))
 refine WL.bo 6 (decide (a0.Op < 1)) 4 [] [0] (fun b' => [(10, .bool (b' || (decide (a0.Op > 2))))]) ?_
 refine WL.rn 1 [] [(11, .bool ((decide (a0.Op < 1)) || (decide (a0.Op > 2))))] ?_
 refine WL.join (σ := Bool) 5 (fun st => gangwayref05_Check.k1 a0 st = some r) (fun st => [(1, .pointer (some ⟨b1, 0, none⟩)), (2, .int .i64 0), (16, .bool st)]) (fun st => Sat w Z [(b1, api_Arp.o a0)] [] Glob) (fun st hM => ?_) (fun K1 => ?_)
 ·
  obtain ⟨x5, rfl⟩ : ∃ y, y = st := ⟨st, rfl⟩
  replace hM : gangwayref05_Check.k1 a0 x5 = some r := hM
  unfold gangwayref05_Check.k1 at hM
  try dsimp only
  refine WL.rn 1 [] [(17, .bool x5)] ?_
  refine WL.bo 17 x5 5 [] [0] (fun b' => [(22, .bool (b' || ((Int.fdiv a0.TMac 281474976710656) != 0)))]) ?_
  refine WP.done (WP.kp [false] ?_)
  refine WP.cond (x5 || ((Int.fdiv a0.TMac 281474976710656) != 0)) rfl rfl (fun c6 => ?_) (fun c6 => ?_)
  ·replace hM := cond_t hM c6
   refine WP.seq (WP.rn [] [(2, .int .i64 51)] ?_)
   obtain rfl := Option.some.inj hM
   exact WP.retQ [] []
  ·replace hM := cond_f hM c6
   refine WP.skip (WP.seq (WP.rn [] [(2, .int .i64 0)] ?_))
   obtain rfl := Option.some.inj hM
   exact WP.retQ [] []
 ·
  refine WL.sp 11 ((decide (a0.Op < 1)) || (decide (a0.Op > 2))) (fun c2 => ?_) (fun c2 => ?_)
  ·replace hM := cond_t hM c2
   refine WL.rn 5 [] [(16, .bool true)] ?_
   exact WL.sub [1, 2, 16] (by kernel_rfl) (WL.pick [0] (by kernel_rfl) (by kernel_rfl) (K1 true hM))
  ·replace hM := cond_f hM c2
   refine WL.rn 2 [0] [(13, .int .u64 a0.SMac)] ?_
   obtain ⟨r3, h4, hM⟩ := bind_some hM
   refine WL.callP [] [] (gangwayref02_Own_calls a0.SMac _ h4) (fun _ h => h) (by kernel_rfl) (by kernel_rfl) rfl ?_
   refine WL.rn 2 [] [(16, .bool (!r3))] ?_
   exact WL.sub [1, 2, 16] (by kernel_rfl) (WL.pick [0] (by kernel_rfl) (by kernel_rfl) (K1 (!r3) hM))
def gangwayref05_Parse.k1 (r6 : Int) (r10 : Int) (r14 : Int) (r18 : Int) (r22 : Int) (x30 : Bool) : Option (api_Arp × Int) :=
 bif x30 then
  some ((api_Arp.mk 0 0 0 0 0), 51)
 else
  some ((api_Arp.mk (i64 r6) r10 (u32 r14) r18 (u32 r22)), 0)
def gangwayref05_Parse.f (k : Nat) (a0 : ByteArray) : Option (api_Arp × Int) :=
 bif decide ((a0.size : Int) < 28) then
  some ((api_Arp.mk 0 0 0 0 0), 50)
 else
  (sliceS a0 6 8).bind fun t4 =>
  (gangwayref01_Num.f k t4).bind fun r6 =>
  (sliceS a0 8 14).bind fun t8 =>
  (gangwayref01_Num.f k t8).bind fun r10 =>
  (sliceS a0 14 18).bind fun t12 =>
  (gangwayref01_Num.f k t12).bind fun r14 =>
  (sliceS a0 18 24).bind fun t16 =>
  (gangwayref01_Num.f k t16).bind fun r18 =>
  (sliceS a0 24 28).bind fun t20 =>
  (gangwayref01_Num.f k t20).bind fun r22 =>
  (sliceS a0 0 6).bind fun t25 =>
  bif !(t25.toList == (⟨#[0, 1, 8, 0, 6, 4]⟩ : ByteArray).toList) then
   gangwayref05_Parse.k1 r6 r10 r14 r18 r22 true
  else
   (gangwayref05_Check.f (api_Arp.mk (i64 r6) r10 (u32 r14) r18 (u32 r22))).bind fun r28 =>
   gangwayref05_Parse.k1 r6 r10 r14 r18 r22 (r28 != 0)
theorem gangwayref05_Parse_calls (k : Nat) (a0 : ByteArray) (r : api_Arp × Int) (h : gangwayref05_Parse.f k a0 = some r) : Pure Tryz.prog Glob 75 #[.string a0] (.tuple #[api_Arp.v r.1, .int .i64 r.2]) := by
 intro w Z hS
 refine callsS (args := [.string a0]) (L := [(0, .string a0)]) (N := 38) Tryz.func75 hS ?_
 have hM := h
 clear h hS
 unfold gangwayref05_Parse.f at hM
 refine WP.seq ?_
 refine WP.rh [] (fun b1 => [(2, .pointer (some ⟨b1, 0, none⟩)), (3, .int .i64 0)]) (fun b1 => []) (fun b1 => [(b1, .cells #[.int .i64 0, .int .u64 0, .int .u32 0, .int .u64 0, .int .u32 0] 50 (0, 0))]) (fun b1 => ?_)
 refine WP.seq (WP.seq (WP.rn [] [(7, .bool (decide ((a0.size : Int) < 28)))] ?_))
 refine WP.cond (decide ((a0.size : Int) < 28)) rfl rfl (fun c2 => ?_) (fun c2 => ?_)
 ·replace hM := cond_t hM c2
  refine WP.seq (WP.rn [0, 0, 0, 0, 0] [(3, .int .i64 50)] ?_)
  obtain rfl := Option.some.inj hM
  exact WP.retQ [0, 0, 0, 0, 0] [b1, b1, b1, b1, b1]
 ·replace hM := cond_f hM c2
  refine WP.skip (WP.seq ?_)
  obtain ⟨t4, h5, hM⟩ := bind_some hM
  obtain ⟨r6, h7, hM⟩ := bind_some hM
  obtain ⟨t8, h9, hM⟩ := bind_some hM
  obtain ⟨r10, h11, hM⟩ := bind_some hM
  obtain ⟨t12, h13, hM⟩ := bind_some hM
  obtain ⟨r14, h15, hM⟩ := bind_some hM
  obtain ⟨t16, h17, hM⟩ := bind_some hM
  obtain ⟨r18, h19, hM⟩ := bind_some hM
  obtain ⟨t20, h21, hM⟩ := bind_some hM
  obtain ⟨r22, h23, hM⟩ := bind_some hM
  refine WP.sub [0, 2, 3] (L' := [(0, .string a0), (2, .pointer (some ⟨b1, 0, none⟩)), (3, .int .i64 0)]) (by kernel_rfl) ?_
  refine WP.mixed (X := Unit) 20 [.val (.string a0), .val (.string t4), .val (.int .u64 r6), .val (.int .i64 (i64 r6)), .val (.string a0), .val (.string t8), .val (.int .u64 r10), .val (.string a0), .val (.string t12), .val (.int .u64 r14), .val (.int .u32 (u32 r14)), .val (.string a0), .val (.string t16), .val (.int .u64 r18), .val (.string a0), .val (.string t20), .val (.int .u64 r22), .val (.int .u32 (u32 r22)), .val (.agg #[.int .i64 (i64 r6), .int .u64 r10, .int .u32 (u32 r14), .int .u64 r18, .int .u32 (u32 r22)]), .alloc (.cells #[.int .i64 0, .int .u64 0, .int .u32 0, .int .u64 0, .int .u32 0] 50 (0, 0)) (fun b => .pointer (some ⟨b, 0, none⟩))] [(b1, .cells #[.int .i64 0, .int .u64 0, .int .u32 0, .int .u64 0, .int .u32 0] 50 (0, 0))] [] (by kernel_rfl) (by kernel_rfl) (by kernel_rfl) (by kernel_rfl) (Heads.val (fun tt Ψ => OpV.run [] [] (by kernel_rfl) (fun _ => by kernel_rfl)) (Heads.val (fun tt Ψ => OpV.val (fun _ => run_sliceS (s := a0) (kl := .i64) (kh := .i64) (l := 6) (h := 8) (by kernel_rfl) (by kernel_rfl) (by kernel_rfl) (by kernel_rfl) h5) (by kernel_rfl)) (Heads.val (fun tt Ψ => OpV.callF [] [] (fun _ h => (List.mem_append_right _ h)) (gangwayref01_Num_calls k t4 _ h7)  (fun _ => by kernel_rfl)) (Heads.val (fun tt Ψ => OpV.run [] [] (by kernel_rfl) (fun _ => by kernel_rfl)) (Heads.val (fun tt Ψ => OpV.run [] [] (by kernel_rfl) (fun _ => by kernel_rfl)) (Heads.val (fun tt Ψ => OpV.val (fun _ => run_sliceS (s := a0) (kl := .i64) (kh := .i64) (l := 8) (h := 14) (by kernel_rfl) (by kernel_rfl) (by kernel_rfl) (by kernel_rfl) h9) (by kernel_rfl)) (Heads.val (fun tt Ψ => OpV.callF [] [] (fun _ h => (List.mem_append_right _ h)) (gangwayref01_Num_calls k t8 _ h11)  (fun _ => by kernel_rfl)) (Heads.val (fun tt Ψ => OpV.run [] [] (by kernel_rfl) (fun _ => by kernel_rfl)) (Heads.val (fun tt Ψ => OpV.val (fun _ => run_sliceS (s := a0) (kl := .i64) (kh := .i64) (l := 14) (h := 18) (by kernel_rfl) (by kernel_rfl) (by kernel_rfl) (by kernel_rfl) h13) (by kernel_rfl)) (Heads.val (fun tt Ψ => OpV.callF [] [] (fun _ h => (List.mem_append_right _ h)) (gangwayref01_Num_calls k t12 _ h15)  (fun _ => by kernel_rfl)) (Heads.val (fun tt Ψ => OpV.run [] [] (by kernel_rfl) (fun _ => by kernel_rfl)) (Heads.val (fun tt Ψ => OpV.run [] [] (by kernel_rfl) (fun _ => by kernel_rfl)) (Heads.val (fun tt Ψ => OpV.val (fun _ => run_sliceS (s := a0) (kl := .i64) (kh := .i64) (l := 18) (h := 24) (by kernel_rfl) (by kernel_rfl) (by kernel_rfl) (by kernel_rfl) h17) (by kernel_rfl)) (Heads.val (fun tt Ψ => OpV.callF [] [] (fun _ h => (List.mem_append_right _ h)) (gangwayref01_Num_calls k t16 _ h19)  (fun _ => by kernel_rfl)) (Heads.val (fun tt Ψ => OpV.run [] [] (by kernel_rfl) (fun _ => by kernel_rfl)) (Heads.val (fun tt Ψ => OpV.val (fun _ => run_sliceS (s := a0) (kl := .i64) (kh := .i64) (l := 24) (h := 28) (by kernel_rfl) (by kernel_rfl) (by kernel_rfl) (by kernel_rfl) h21) (by kernel_rfl)) (Heads.val (fun tt Ψ => OpV.callF [] [] (fun _ h => (List.mem_append_right _ h)) (gangwayref01_Num_calls k t20 _ h23)  (fun _ => by kernel_rfl)) (Heads.val (fun tt Ψ => OpV.run [] [] (by kernel_rfl) (fun _ => by kernel_rfl)) (Heads.val (fun tt Ψ => OpV.run [] [] (by kernel_rfl) (fun _ => by kernel_rfl)) (Heads.alloc (fun _ => by kernel_rfl) (fun _ _ => by kernel_rfl) Heads.nil)))))))))))))))))))) (fun s3 tt => [(9, .string a0), (10, .string t4), (11, .int .u64 r6), (12, .int .i64 (i64 r6)), (13, .string a0), (14, .string t8), (15, .int .u64 r10), (16, .string a0), (17, .string t12), (18, .int .u64 r14), (19, .int .u32 (u32 r14)), (20, .string a0), (21, .string t16), (22, .int .u64 r18), (23, .string a0), (24, .string t20), (25, .int .u64 r22), (26, .int .u32 (u32 r22)), (27, .agg #[.int .i64 (i64 r6), .int .u64 r10, .int .u32 (u32 r14), .int .u64 r18, .int .u32 (u32 r22)]), (4, .pointer (some ⟨(s3 19), 0, none⟩)), (0, .string a0), (2, .pointer (some ⟨b1, 0, none⟩)), (3, .int .i64 0)]) (fun s3 tt => [(b1, .cells #[.int .i64 0, .int .u64 0, .int .u32 0, .int .u64 0, .int .u32 0] 50 (0, 0)), ((s3 19), .cells #[.int .i64 0, .int .u64 0, .int .u32 0, .int .u64 0, .int .u32 0] 50 (0, 0))]) (fun tt => Glob) (fun _ _ => by kernel_rfl) (fun _ _ => by kernel_rfl) (fun _ => by kernel_rfl) (fun s3 tt => ?_)
  generalize s3 19 = b24
  refine WL.rh 1 [1, 1, 1, 1, 1] (fun _ => []) (fun _ => [(1, 0, [.int .i64 (i64 r6), .int .u64 r10, .int .u32 (u32 r14), .int .u64 r18, .int .u32 (u32 r22)])]) (fun _ => []) (fun _ => ?_)
  refine WP.done (WP.seq (WP.seq (WP.region (WL.rn 1 [] [(28, .string a0)] ?_))))
  obtain ⟨t25, h26, hM⟩ := bind_some hM
  refine WL.val (fun _ => run_sliceS_hi (s := a0) (kh := .i64) (h := 6) (by kernel_rfl) (by kernel_rfl) (by kernel_rfl) h26) (by kernel_rfl) (by kernel_rfl) rfl ?_
  refine WL.rn 2 [] [(31, .bool (!(t25.toList == (⟨#[0, 1, 8, 0, 6, 4]⟩ : ByteArray).toList)))] ?_
  refine WL.join (σ := Bool) 4 (fun st => gangwayref05_Parse.k1 r6 r10 r14 r18 r22 st = some r) (fun st => [(2, .pointer (some ⟨b1, 0, none⟩)), (3, .int .i64 0), (4, .pointer (some ⟨b24, 0, none⟩)), (35, .bool st)]) (fun st => Sat w Z [(b1, .cells #[.int .i64 0, .int .u64 0, .int .u32 0, .int .u64 0, .int .u32 0] 50 (0, 0)), (b24, .cells #[.int .i64 (i64 r6), .int .u64 r10, .int .u32 (u32 r14), .int .u64 r18, .int .u32 (u32 r22)] 50 (0, 0))] [] Glob) (fun st hM => ?_) (fun K1 => ?_)
  ·
   obtain ⟨x30, rfl⟩ : ∃ y, y = st := ⟨st, rfl⟩
   replace hM : gangwayref05_Parse.k1 r6 r10 r14 r18 r22 x30 = some r := hM
   unfold gangwayref05_Parse.k1 at hM
   try dsimp only
   refine WP.done ?_
   refine WP.cond x30 rfl rfl (fun c31 => ?_) (fun c31 => ?_)
   ·replace hM := cond_t hM c31
    refine WP.seq (WP.rn [0, 0, 0, 0, 0] [(3, .int .i64 51)] ?_)
    obtain rfl := Option.some.inj hM
    exact WP.retQ [0, 0, 0, 0, 0] [b1, b1, b1, b1, b1]
   ·replace hM := cond_f hM c31
    refine WP.skip (WP.seq ?_)
    refine WP.rh [1, 1, 1, 1, 1, 0, 0, 0, 0, 0] (fun _ => [(3, .int .i64 0)]) (fun _ => [(0, 0, [.int .i64 (i64 r6), .int .u64 r10, .int .u32 (u32 r14), .int .u64 r18, .int .u32 (u32 r22)])]) (fun _ => []) (fun _ => ?_)
    refine WP.kp [true, false] ?_
    obtain rfl := Option.some.inj hM
    exact WP.retQ [0, 0, 0, 0, 0] [b1, b1, b1, b1, b1]
  ·
   refine WL.sp 31 (!(t25.toList == (⟨#[0, 1, 8, 0, 6, 4]⟩ : ByteArray).toList)) (fun c27 => ?_) (fun c27 => ?_)
   ·replace hM := cond_t hM c27
    refine WL.rn 4 [] [(35, .bool true)] ?_
    exact WL.sub [2, 3, 4, 35] (by kernel_rfl) (WL.pick [0, 1] (by kernel_rfl) (by kernel_rfl) (K1 true hM))
   ·replace hM := cond_f hM c27
    refine WL.rn 1 [1, 1, 1, 1, 1] [(32, .agg #[.int .i64 (i64 r6), .int .u64 r10, .int .u32 (u32 r14), .int .u64 r18, .int .u32 (u32 r22)])] ?_
    obtain ⟨r28, h29, hM⟩ := bind_some hM
    refine WL.callP [] [] (gangwayref05_Check_calls (api_Arp.mk (i64 r6) r10 (u32 r14) r18 (u32 r22)) _ h29) (fun _ h => h) (by kernel_rfl) (by kernel_rfl) rfl ?_
    refine WL.rn 2 [] [(35, .bool (r28 != 0))] ?_
    exact WL.sub [2, 3, 4, 35] (by kernel_rfl) (WL.pick [0, 1] (by kernel_rfl) (by kernel_rfl) (K1 (r28 != 0) hM))
def gangwayref05_Of.f (k : Nat) (a0 : api_Frame) : Option (api_Arp × Bool) :=
 (gangwayref05_Parse.f k a0.Body).bind fun (r2, r3) =>
 bif ((a0.Type_ != 2054) || (r3 != 0)) then
  some ((api_Arp.mk 0 0 0 0 0), false)
 else
  some (r2, true)
theorem gangwayref05_Of_calls (k : Nat) (a0 : api_Frame) (r : api_Arp × Bool) (h : gangwayref05_Of.f k a0 = some r) : Pure Tryz.prog Glob 25 #[api_Frame.v a0] (.tuple #[api_Arp.v r.1, .bool r.2]) := by
 intro w Z hS
 refine callsS (args := [api_Frame.v a0]) (L := [(0, api_Frame.v a0)]) (N := 21) Tryz.func25 hS ?_
 have hM := h
 clear h hS
 unfold gangwayref05_Of.f at hM
 refine WP.seq ?_
 refine WP.rh [] (fun b1 => [(1, .pointer (some ⟨b1, 0, none⟩)), (2, .pointer (some ⟨(b1 + 1), 0, none⟩)), (3, .bool false)]) (fun b1 => []) (fun b1 => [(b1, api_Frame.o a0), ((b1 + 1), .cells #[.int .i64 0, .int .u64 0, .int .u32 0, .int .u64 0, .int .u32 0] 50 (0, 0))]) (fun b1 => ?_)
 refine WP.seq (WP.region (WL.rn 2 [0] [(8, .string a0.Body)] ?_))
 obtain ⟨⟨r2, r3⟩, h4, hM⟩ := bind_some hM
 dsimp only at hM
 refine WL.callP [] [] (gangwayref05_Parse_calls k a0.Body _ h4) (fun _ h => h) (by kernel_rfl) (by kernel_rfl) rfl ?_
 refine WL.rh 6 [2, 2, 2, 2, 2] (fun b5 => [(4, .pointer (some ⟨b5, 0, none⟩)), (5, .int .i64 r3)]) (fun b5 => []) (fun b5 => [(b5, api_Arp.o r2)]) (fun b5 => ?_)
 refine WP.done (WP.seq (WP.seq (WP.region (WL.rn 4 [0] [(15, .bool (a0.Type_ != 2054))] ?_))))
 refine WL.bo 15 (a0.Type_ != 2054) 3 [] [] (fun b' => [(18, .bool (b' || (r3 != 0)))]) ?_
 refine WP.done (WP.kp [false, true, true] ?_)
 refine WP.cond ((a0.Type_ != 2054) || (r3 != 0)) rfl rfl (fun c6 => ?_) (fun c6 => ?_)
 ·replace hM := cond_t hM c6
  refine WP.seq (WP.rn [0, 0, 0, 0, 0] [(3, .bool false)] ?_)
  obtain rfl := Option.some.inj hM
  exact WP.retQ [0, 0, 0, 0, 0] [(b1 + 1), (b1 + 1), (b1 + 1), (b1 + 1), (b1 + 1)]
 ·replace hM := cond_f hM c6
  refine WP.skip (WP.seq ?_)
  refine WP.rh [1, 1, 1, 1, 1, 0, 0, 0, 0, 0] (fun _ => [(3, .bool true)]) (fun _ => [(0, 0, [.int .i64 r2.Op, .int .u64 r2.SMac, .int .u32 r2.SIp, .int .u64 r2.TMac, .int .u32 r2.TIp])]) (fun _ => []) (fun _ => ?_)
  refine WP.kp [true, false] ?_
  obtain rfl := Option.some.inj hM
  exact WP.retQ [0, 0, 0, 0, 0] [(b1 + 1), (b1 + 1), (b1 + 1), (b1 + 1), (b1 + 1)]
def binding_key.f (a0 : Int) (a1 : Int) : Option (Int) :=
 some (bOr .u64 (u64 ((u64 a0) * 4294967296)) (u64 a1))
theorem binding_key_calls (a0 : Int) (a1 : Int) (r : Int) (h : binding_key.f a0 a1 = some r) : Pure Tryz.prog Glob 292 #[.int .i64 a0, .int .u32 a1] (.int .u64 r) := by
 intro w Z hS
 refine callsS (args := [.int .i64 a0, .int .u32 a1]) (L := [(0, .int .i64 a0), (1, .int .u32 a1)]) (N := 11) Tryz.func292 hS ?_
 have hM := h
 clear h hS
 unfold binding_key.f at hM
 refine WP.seq (WP.rn [] [(4, .int .u64 0)] ?_)
 refine WP.seq (WP.rn [] [(4, .int .u64 (bOr .u64 (u64 ((u64 a0) * 4294967296)) (u64 a1)))] ?_)
 obtain rfl := Option.some.inj hM
 exact WP.retQ [] []
def cmp_isNaN_uint64.f (a0 : Int) : Option (Bool) :=
 some (a0 != a0)
theorem cmp_isNaN_uint64_calls (a0 : Int) (r : Bool) (h : cmp_isNaN_uint64.f a0 = some r) : Pure Tryz.prog Glob 334 #[.int .u64 a0] (.bool r) := by
 intro w Z hS
 refine callsS (args := [.int .u64 a0]) (L := [(0, .int .u64 a0)]) (N := 6) Tryz.func334 hS ?_
 have hM := h
 clear h hS
 unfold cmp_isNaN_uint64.f at hM
 refine WP.seq (WP.rn [] [(2, .bool false)] ?_)
 refine WP.seq (WP.rn [] [(2, .bool (a0 != a0))] ?_)
 obtain rfl := Option.some.inj hM
 exact WP.retQ [] []
def cmp_Compare_uint64.f (a0 : Int) (a1 : Int) : Option (Int) :=
 (cmp_isNaN_uint64.f a0).bind fun r1 =>
 (cmp_isNaN_uint64.f a1).bind fun r3 =>
 bif r1 then
  bif r3 then
   some 0
  else
   some (-1)
 else
  bif r3 then
   some 1
  else
   bif decide (a0 < a1) then
    some (-1)
   else
    bif decide (a0 > a1) then
     some 1
    else
     some 0
theorem cmp_Compare_uint64_calls (a0 : Int) (a1 : Int) (r : Int) (h : cmp_Compare_uint64.f a0 a1 = some r) : Pure Tryz.prog Glob 301 #[.int .u64 a0, .int .u64 a1] (.int .i64 r) := by
 intro w Z hS
 refine callsS (args := [.int .u64 a0, .int .u64 a1]) (L := [(0, .int .u64 a0), (1, .int .u64 a1)]) (N := 20) Tryz.func301 hS ?_
 have hM := h
 clear h hS
 unfold cmp_Compare_uint64.f at hM
 refine WP.seq (WP.rn [] [(4, .int .i64 0)] ?_)
 refine WP.seq (WP.region (WL.rn 1 [] [(7, .int .u64 a0)] ?_))
 obtain ⟨r1, h2, hM⟩ := bind_some hM
 refine WL.callP [] [] (cmp_isNaN_uint64_calls a0 _ h2) (fun _ h => h) (by kernel_rfl) (by kernel_rfl) rfl ?_
 refine WL.rn 1 [] [(5, .bool r1)] ?_
 refine WP.done (WP.seq (WP.region (WL.rn 1 [] [(9, .int .u64 a1)] ?_)))
 obtain ⟨r3, h4, hM⟩ := bind_some hM
 refine WL.callP [] [] (cmp_isNaN_uint64_calls a1 _ h4) (fun _ h => h) (by kernel_rfl) (by kernel_rfl) rfl ?_
 refine WL.rn 1 [] [(6, .bool r3)] ?_
 refine WP.done (WP.seq (WP.seq (WP.rn [] [(11, .bool r1)] ?_)))
 refine WP.cond r1 rfl rfl (fun c5 => ?_) (fun c5 => ?_)
 ·replace hM := cond_t hM c5
  refine WP.seq (WP.seq (WP.rn [] [(12, .bool r3)] ?_))
  refine WP.cond r3 rfl rfl (fun c6 => ?_) (fun c6 => ?_)
  ·replace hM := cond_t hM c6
   refine WP.seq (WP.rn [] [(4, .int .i64 0)] ?_)
   obtain rfl := Option.some.inj hM
   exact WP.retQ [] []
  ·replace hM := cond_f hM c6
   refine WP.skip (WP.seq (WP.rn [] [(4, .int .i64 (-1))] ?_))
   obtain rfl := Option.some.inj hM
   exact WP.retQ [] []
 ·replace hM := cond_f hM c5
  refine WP.skip (WP.seq (WP.seq (WP.rn [] [(13, .bool r3)] ?_)))
  refine WP.cond r3 rfl rfl (fun c7 => ?_) (fun c7 => ?_)
  ·replace hM := cond_t hM c7
   refine WP.seq (WP.rn [] [(4, .int .i64 1)] ?_)
   obtain rfl := Option.some.inj hM
   exact WP.retQ [] []
  ·replace hM := cond_f hM c7
   refine WP.skip (WP.seq (WP.seq (WP.rn [] [(16, .bool (decide (a0 < a1)))] ?_)))
   refine WP.cond (decide (a0 < a1)) rfl rfl (fun c8 => ?_) (fun c8 => ?_)
   ·replace hM := cond_t hM c8
    refine WP.seq (WP.rn [] [(4, .int .i64 (-1))] ?_)
    obtain rfl := Option.some.inj hM
    exact WP.retQ [] []
   ·replace hM := cond_f hM c8
    refine WP.skip (WP.seq (WP.seq (WP.rn [] [(19, .bool (decide (a0 > a1)))] ?_)))
    refine WP.cond (decide (a0 > a1)) rfl rfl (fun c9 => ?_) (fun c9 => ?_)
    ·replace hM := cond_t hM c9
     refine WP.seq (WP.rn [] [(4, .int .i64 1)] ?_)
     obtain rfl := Option.some.inj hM
     exact WP.retQ [] []
    ·replace hM := cond_f hM c9
     refine WP.skip (WP.seq (WP.rn [] [(4, .int .i64 0)] ?_))
     obtain rfl := Option.some.inj hM
     exact WP.retQ [] []
def arp_joined.l1 (a0 : (List arp_field)) (k : Nat) : Nat → Int → ByteArray → Option (ByteArray)
 | 0, _, _ => none
 | n + 1, x12, x13 =>
  bif decide (x12 < (a0.length : Int)) then
   (getL a0.length a0 x12).bind fun t15 =>
   (octets_Put.f k t15.v t15.n).bind fun (r18, r19) =>
   (bldS x13 r18).bind fun t21 =>
   arp_joined.l1 a0 k n (i64 (x12 + 1)) t21
  else
   some x13
def arp_joined.f (k : Nat) (a0 : (List arp_field)) : Option (ByteArray) :=
 arp_joined.l1 a0 k k 0 (⟨#[]⟩ : ByteArray)
theorem arp_joined_calls (k : Nat) (A00 : SkL Unit) (a0 : (List arp_field)) (r : ByteArray) (h : arp_joined.f k a0 = some r) : Pure Tryz.prog ([Row 2 (pl arp_field.enc) noK A00 a0] ++ Glob) 82 #[slcV A00 a0.length] (.string r) := by
 intro w Z hS'
 obtain ⟨Z0, hz, hS, hback⟩ := Sat.noT hS'
 refine Calls.mono (R := fun e w' => e = .returned (.string r) ∧ Sat w Z0 [] [] ([Row 2 (pl arp_field.enc) noK A00 a0] ++ Glob) w') ?_ (fun e w' ⟨a, b⟩ => ⟨a, hback w' b⟩)
 refine callsS (args := [slcV A00 a0.length]) (L := [(0, slcV A00 a0.length)]) (N := 26) Tryz.func82 hS ?_
 have hM := h
 clear h
 unfold arp_joined.f at hM
 refine WP.seq ?_
 refine WP.rn [] [(2, .string (⟨#[]⟩ : ByteArray))] ?_
 refine WP.seq ?_
 refine WP.rh [] (fun b1 => [(3, .pointer (some ⟨b1, 0, none⟩))]) (fun b1 => []) (fun b1 => [(b1, .cells #[.pointer none, .slice none 0 0] 338 (0, 0))]) (fun b1 => ?_)
 refine WP.bldNew (T := 338) (e := 5) hz hS ?_
 refine WP.seq (WP.seq (WP.rn [] [(8, slcV A00 a0.length), (9, .int .i64 (a0.length : Int)), (10, .int .i64 0)] ?_))
 refine WP.block ?_
 refine WP.sub [2, 3, 8, 9, 10] (L' := [(2, .string (⟨#[]⟩ : ByteArray)), (3, .pointer (some ⟨b1, 0, none⟩)), (8, slcV A00 a0.length), (9, .int .i64 (a0.length : Int)), (10, .int .i64 0)]) (by kernel_rfl) ?_
 refine WP.lessF [0] (F' := [Row 2 (pl arp_field.enc) noK A00 a0]) (by kernel_rfl) ?_
 refine WP.loop (σ := Int × ByteArray) (fun n st => arp_joined.l1 a0 k n st.1 st.2) r (fun st => [(2, .string (⟨#[]⟩ : ByteArray)), (3, .pointer (some ⟨b1, 0, none⟩)), (8, slcV A00 a0.length), (9, .int .i64 (a0.length : Int)), (10, .int .i64 st.1)]) (fun st => Sat w Z0 [] [Bld 338 5 w.heap.size b1 st.2] ([Row 2 (pl arp_field.enc) noK A00 a0] ++ Glob)) (st := (0, (⟨#[]⟩ : ByteArray))) (fun n st hM => ?_) hM
 rcases n with _ | n
 ·exact nomatch (show (none : Option _) = some r from hM)
 obtain ⟨x12, x13⟩ := st
 replace hM : arp_joined.l1 a0 k (n + 1) x12 x13 = some r := hM
 rw [arp_joined.l1] at hM
 try dsimp only
 refine WP.seq (WP.rn [] [(11, .bool (decide (x12 < (a0.length : Int))))] ?_)
 refine WP.seq ?_
 refine WP.cond (decide (x12 < (a0.length : Int))) rfl rfl (fun c14 => ?_) (fun c14 => ?_)
 ·replace hM := cond_t hM c14
  refine WP.skip (WP.seq (WP.block (WP.seq (WP.region ?_))))
  obtain ⟨t15, h16, hM⟩ := bind_some hM
  refine WL.valF (φ := Row 2 (pl arp_field.enc) noK A00 a0) (fact_at 0 rfl) (fun w hR => run_indexRowF (A := A00) (xs := a0) (i := x12) (k := .i64) (e := 201) (m := 2) (by kernel_rfl) (by kernel_rfl) h16 (by kernel_rfl) (by kernel_rfl) hR) (by kernel_rfl) (by kernel_rfl) rfl ?_
  refine WL.valF (φ := Row 2 (pl arp_field.enc) noK A00 a0) (fact_at 0 rfl) (fun w hR => run_loadRowFA (A := A00) (xs := a0) (i := x12) (j := 0) (n := 2) (vs := [.int .u64 t15.v, .int .i64 t15.n]) h16 (fun _ => by kernel_rfl) (by kernel_rfl) (by kernel_rfl) (by kernel_rfl) rfl hR) (by kernel_rfl) (by kernel_rfl) rfl ?_
  refine WL.rh 2 [0, 0] (fun b17 => [(5, .pointer (some ⟨b17, 0, none⟩))]) (fun b17 => []) (fun b17 => [(b17, arp_field.o t15)]) (fun b17 => ?_)
  refine WP.done (WP.seq (WP.region ?_))
  refine WL.rn 4 [0, 0] [(15, .pointer (some ⟨b17, 0, none⟩)), (16, .int .u64 t15.v), (17, .pointer (some ⟨b17, 1, none⟩)), (18, .int .i64 t15.n)] ?_
  obtain ⟨⟨r18, r19⟩, h20, hM⟩ := bind_some hM
  dsimp only at hM
  refine WL.callP [] [] (octets_Put_calls k t15.v t15.n _ h20) (fun _ h => List.mem_append_right _ h) (by kernel_rfl) (by kernel_rfl) rfl ?_
  refine WL.rn 5 [] [(6, .string r18), (14, .tuple #[.string r18, .int .i64 r19]), (20, .string r18), (21, .int .i64 r19)] ?_
  refine WP.done (WP.region (WL.rn 1 [] [(22, .string r18)] ?_))
  refine WL.kp [false] ?_
  obtain ⟨t21, h22, hM⟩ := bind_some hM
  refine WL.bldWrite Bldr.lays166 Bldr.extra hz hS [] [] x13 r18 t21 (by kernel_rfl) h22 (by kernel_rfl) rfl ?_
  refine WP.done (WP.leave (WP.rn [] [(10, .int .i64 (i64 (x12 + 1))), (24, .int .i64 (i64 (x12 + 1)))] ?_))
  exact WP.again' [2, 3, 8, 9, 10] (i64 (x12 + 1), t21) hM (by kernel_rfl) (fun _ h => ((h.pick [] (by kernel_rfl)).lessF [0] (by kernel_rfl)).pickG [0] [] 1 rfl (by decide) (by kernel_rfl))
 ·replace hM := cond_f hM c14
  refine WP.exit rfl (WP.seq (WP.region (WL.bldString Bldr.lays169 Bldr.extra hz hS [] [] x13 (by kernel_rfl) (by kernel_rfl) rfl ?_)))
  refine WL.rn 1 [] [(2, .string x13)] ?_
  refine WP.done ?_
  obtain rfl := Option.some.inj hM
  exact WP.retF [] [] [0]
def arp_laid.f (k : Nat) (a0 : api_Arp) : Option (ByteArray) :=
 (arp_joined.f k ([(arp_field.mk (u64 a0.Op) 2), (arp_field.mk (Int.tmod a0.SMac 281474976710656) 6), (arp_field.mk (u64 a0.SIp) 4), (arp_field.mk (Int.tmod a0.TMac 281474976710656) 6), (arp_field.mk (u64 a0.TIp) 4)] : List arp_field)).bind fun r3 =>
 (catS (⟨#[0, 1, 8, 0, 6, 4]⟩ : ByteArray) r3).bind fun t5 =>
 some t5
theorem arp_laid_calls (k : Nat) (a0 : api_Arp) (r : ByteArray) (h : arp_laid.f k a0 = some r) : Pure Tryz.prog Glob 36 #[api_Arp.v a0] (.string r) := by
 intro w Z hS
 refine callsS (args := [api_Arp.v a0]) (L := [(0, api_Arp.v a0)]) (N := 26) Tryz.func36 hS ?_
 have hM := h
 clear h hS
 unfold arp_laid.f at hM
 refine WP.less (Φ' := [] ++ Glob) (fun _ h => h) ?_
 refine WP.seq ?_
 refine WP.rh [] (fun b1 => [(1, .pointer (some ⟨b1, 0, none⟩)), (2, .string (⟨#[]⟩ : ByteArray))]) (fun b1 => []) (fun b1 => [(b1, api_Arp.o a0)]) (fun b1 => ?_)
 refine WP.seq (WP.region ?_)
 refine WL.rh 21 [0, 0, 0, 0, 0] (fun b2 => [(23, .slice (some ⟨b2, 0, none⟩) 5 5)]) (fun b2 => []) (fun b2 => [(b2, .cells #[.int .u64 (u64 a0.Op), .int .i64 2, .int .u64 (Int.tmod a0.SMac 281474976710656), .int .i64 6, .int .u64 (u64 a0.SIp), .int .i64 4, .int .u64 (Int.tmod a0.TMac 281474976710656), .int .i64 6, .int .u64 (u64 a0.TIp), .int .i64 4] 201 (0, 0))]) (fun b2 => ?_)
 refine WL.ice (H' := [(b1, api_Arp.o a0)]) (Row 2 (pl arp_field.enc) noK (SkL.at b2 5 (fun _ => ())) ([(arp_field.mk (u64 a0.Op) 2), (arp_field.mk (Int.tmod a0.SMac 281474976710656) 6), (arp_field.mk (u64 a0.SIp) 4), (arp_field.mk (Int.tmod a0.TMac 281474976710656) 6), (arp_field.mk (u64 a0.TIp) 4)] : List arp_field)) 1 (b := b2) (ob := .cells #[.int .u64 (u64 a0.Op), .int .i64 2, .int .u64 (Int.tmod a0.SMac 281474976710656), .int .i64 6, .int .u64 (u64 a0.SIp), .int .i64 4, .int .u64 (Int.tmod a0.TMac 281474976710656), .int .i64 6, .int .u64 (u64 a0.TIp), .int .i64 4] 201 (0, 0)) (by kernel_rfl) [] [] (by kernel_rfl) (fun w hb hψ => row_of_block hb (fun _ _ => rfl) ⟨[], by kernel_rfl⟩ (Nat.le_of_ble_eq_true rfl) (InK.no _ _)) (by kernel_rfl) ?_
 obtain ⟨r3, h4, hM⟩ := bind_some hM
 refine WL.callP [] [] (arp_joined_calls k (SkL.at b2 5 (fun _ => ())) ([(arp_field.mk (u64 a0.Op) 2), (arp_field.mk (Int.tmod a0.SMac 281474976710656) 6), (arp_field.mk (u64 a0.SIp) 4), (arp_field.mk (Int.tmod a0.TMac 281474976710656) 6), (arp_field.mk (u64 a0.TIp) 4)] : List arp_field) _ h4) (sub_pick [0] (by kernel_rfl)) (by kernel_rfl) (by kernel_rfl) rfl ?_
 obtain ⟨t5, h6, hM⟩ := bind_some hM
 refine WL.val (fun _ => run_catS (a := (⟨#[0, 1, 8, 0, 6, 4]⟩ : ByteArray)) (b := r3) (by kernel_rfl) (by kernel_rfl) h6) (by kernel_rfl) (by kernel_rfl) rfl ?_
 refine WL.rn 1 [] [(2, .string t5)] ?_
 refine WP.done (WP.kp [false] ?_)
 obtain rfl := Option.some.inj hM
 exact WP.ret [] [] (.string t5) (by kernel_rfl) (fun w' hw => ⟨rfl, (hw.pick [] rfl).less (fun _ h => List.mem_append_right _ h)⟩)
def gangwayref01_Bytes.l1 (a1 : Int) : Nat → Int → ByteArray → Int → Option (ByteArray)
 | 0, _, _, _ => none
 | n + 1, x1, x2, x3 =>
  bif decide (x3 < a1) then
   (catS (ByteArray.push ByteArray.empty (UInt8.ofNat (Int.toNat (u8 (Int.tmod x1 256))))) x2).bind fun t6 =>
   gangwayref01_Bytes.l1 a1 n (u64 (Int.tdiv x1 256)) t6 (i64 (x3 + 1))
  else
   some x2
def gangwayref01_Bytes.f (k : Nat) (a0 : Int) (a1 : Int) : Option (ByteArray) :=
 gangwayref01_Bytes.l1 a1 k a0 (⟨#[]⟩ : ByteArray) 0
theorem gangwayref01_Bytes_calls (k : Nat) (a0 : Int) (a1 : Int) (r : ByteArray) (h : gangwayref01_Bytes.f k a0 a1 = some r) : Pure Tryz.prog Glob 67 #[.int .u64 a0, .int .i64 a1] (.string r) := by
 intro w Z hS
 refine callsS (args := [.int .u64 a0, .int .i64 a1]) (L := [(0, .int .u64 a0), (1, .int .i64 a1)]) (N := 22) Tryz.func67 hS ?_
 have hM := h
 clear h hS
 unfold gangwayref01_Bytes.f at hM
 refine WP.seq ?_
 refine WP.rn [] [(4, .string (⟨#[]⟩ : ByteArray))] ?_
 refine WP.seq ?_
 refine WP.rn [] [(5, .string (⟨#[]⟩ : ByteArray))] ?_
 refine WP.seq (WP.seq (WP.rn [] [(6, .int .i64 0)] ?_))
 refine WP.block ?_
 refine WP.sub [0, 1, 4, 5, 6] (L' := [(0, .int .u64 a0), (1, .int .i64 a1), (4, .string (⟨#[]⟩ : ByteArray)), (5, .string (⟨#[]⟩ : ByteArray)), (6, .int .i64 0)]) (by kernel_rfl) ?_
 refine WP.loop (σ := Int × ByteArray × Int) (fun n st => gangwayref01_Bytes.l1 a1 n st.1 st.2.1 st.2.2) r (fun st => [(0, .int .u64 st.1), (1, .int .i64 a1), (4, .string (⟨#[]⟩ : ByteArray)), (5, .string st.2.1), (6, .int .i64 st.2.2)]) (fun st => Sat w Z [] [] Glob) (st := (a0, (⟨#[]⟩ : ByteArray), 0)) (fun n st hM => ?_) hM
 rcases n with _ | n
 ·exact nomatch (show (none : Option _) = some r from hM)
 obtain ⟨x1, x2, x3⟩ := st
 replace hM : gangwayref01_Bytes.l1 a1 (n + 1) x1 x2 x3 = some r := hM
 rw [gangwayref01_Bytes.l1] at hM
 try dsimp only
 refine WP.seq (WP.seq (WP.rn [] [(7, .int .i64 x3), (8, .int .i64 a1), (9, .bool (decide (x3 < a1)))] ?_))
 refine WP.cond (decide (x3 < a1)) rfl rfl (fun c4 => ?_) (fun c4 => ?_)
 ·replace hM := cond_t hM c4
  refine WP.skip (WP.seq (WP.block (WP.seq (WP.region ?_))))
  refine WL.rh 6 [0] (fun b5 => [(12, .int .u64 x1), (13, .int .u64 (Int.tmod x1 256)), (14, .int .u8 (u8 (Int.tmod x1 256))), (15, .slice (some ⟨b5, 0, none⟩) 1 1), (16, .string (ByteArray.push ByteArray.empty (UInt8.ofNat (Int.toNat (u8 (Int.tmod x1 256)))))), (17, .string x2)]) (fun b5 => []) (fun b5 => [(b5, .cells #[.int .u8 (u8 (Int.tmod x1 256))] 5 (0, 0))]) (fun b5 => ?_)
  obtain ⟨t6, h7, hM⟩ := bind_some hM
  refine WL.val (fun _ => run_catS (a := (ByteArray.push ByteArray.empty (UInt8.ofNat (Int.toNat (u8 (Int.tmod x1 256)))))) (b := x2) (by kernel_rfl) (by kernel_rfl) h7) (by kernel_rfl) (by kernel_rfl) rfl ?_
  refine WL.rn 1 [] [(5, .string t6)] ?_
  refine WP.done (WP.rn [] [(0, .int .u64 (u64 (Int.tdiv x1 256))), (19, .int .u64 x1), (20, .int .u64 (u64 (Int.tdiv x1 256)))] ?_)
  refine WP.leave (WP.rn [] [(6, .int .i64 (i64 (x3 + 1))), (10, .int .i64 x3), (11, .int .i64 (i64 (x3 + 1)))] ?_)
  exact WP.again' [0, 1, 4, 5, 6] (u64 (Int.tdiv x1 256), t6, i64 (x3 + 1)) hM (by kernel_rfl) (fun _ h => h.pick [] (by kernel_rfl))
 ·replace hM := cond_f hM c4
  refine WP.exit rfl (WP.seq (WP.rn [] [(4, .string x2)] ?_))
  obtain rfl := Option.some.inj hM
  exact WP.retQ [] []
def gangwayref05_Laid.f (k : Nat) (a0 : api_Arp) : Option (ByteArray) :=
 (gangwayref01_Bytes.f k (u64 a0.Op) 2).bind fun r2 =>
 (catS (⟨#[0, 1, 8, 0, 6, 4]⟩ : ByteArray) r2).bind fun t4 =>
 (gangwayref01_Bytes.f k a0.SMac 6).bind fun r6 =>
 (catS t4 r6).bind fun t8 =>
 (gangwayref01_Bytes.f k (u64 a0.SIp) 4).bind fun r10 =>
 (catS t8 r10).bind fun t12 =>
 (gangwayref01_Bytes.f k a0.TMac 6).bind fun r14 =>
 (catS t12 r14).bind fun t16 =>
 (gangwayref01_Bytes.f k (u64 a0.TIp) 4).bind fun r18 =>
 (catS t16 r18).bind fun t20 =>
 some t20
theorem gangwayref05_Laid_calls (k : Nat) (a0 : api_Arp) (r : ByteArray) (h : gangwayref05_Laid.f k a0 = some r) : Pure Tryz.prog Glob 22 #[api_Arp.v a0] (.string r) := by
 intro w Z hS
 refine callsS (args := [api_Arp.v a0]) (L := [(0, api_Arp.v a0)]) (N := 26) Tryz.func22 hS ?_
 have hM := h
 clear h hS
 unfold gangwayref05_Laid.f at hM
 refine WP.seq ?_
 refine WP.rh [] (fun b1 => [(1, .pointer (some ⟨b1, 0, none⟩)), (2, .string (⟨#[]⟩ : ByteArray))]) (fun b1 => []) (fun b1 => [(b1, api_Arp.o a0)]) (fun b1 => ?_)
 refine WP.seq (WP.quiet (by kernel_rfl) (by kernel_rfl) ?_)
 refine QL.rn 3 [0] [(5, .int .u64 (u64 a0.Op))] ?_
 obtain ⟨r2, h3, hM⟩ := bind_some hM
 refine QL.callP [] [] (gangwayref01_Bytes_calls k (u64 a0.Op) 2 _ h3) (fun _ h => h) (by kernel_rfl) (by kernel_rfl) rfl ?_
 obtain ⟨t4, h5, hM⟩ := bind_some hM
 refine QL.val (fun _ => run_catS (a := (⟨#[0, 1, 8, 0, 6, 4]⟩ : ByteArray)) (b := r2) (by kernel_rfl) (by kernel_rfl) h5) (by kernel_rfl) (by kernel_rfl) rfl ?_
 refine QL.rn 2 [0] [(9, .int .u64 a0.SMac)] ?_
 obtain ⟨r6, h7, hM⟩ := bind_some hM
 refine QL.callP [] [] (gangwayref01_Bytes_calls k a0.SMac 6 _ h7) (fun _ h => h) (by kernel_rfl) (by kernel_rfl) rfl ?_
 obtain ⟨t8, h9, hM⟩ := bind_some hM
 refine QL.val (fun _ => run_catS (a := t4) (b := r6) (by kernel_rfl) (by kernel_rfl) h9) (by kernel_rfl) (by kernel_rfl) rfl ?_
 refine QL.rn 3 [0] [(14, .int .u64 (u64 a0.SIp))] ?_
 obtain ⟨r10, h11, hM⟩ := bind_some hM
 refine QL.callP [] [] (gangwayref01_Bytes_calls k (u64 a0.SIp) 4 _ h11) (fun _ h => h) (by kernel_rfl) (by kernel_rfl) rfl ?_
 obtain ⟨t12, h13, hM⟩ := bind_some hM
 refine QL.val (fun _ => run_catS (a := t8) (b := r10) (by kernel_rfl) (by kernel_rfl) h13) (by kernel_rfl) (by kernel_rfl) rfl ?_
 refine QL.rn 2 [0] [(18, .int .u64 a0.TMac)] ?_
 obtain ⟨r14, h15, hM⟩ := bind_some hM
 refine QL.callP [] [] (gangwayref01_Bytes_calls k a0.TMac 6 _ h15) (fun _ h => h) (by kernel_rfl) (by kernel_rfl) rfl ?_
 obtain ⟨t16, h17, hM⟩ := bind_some hM
 refine QL.val (fun _ => run_catS (a := t12) (b := r14) (by kernel_rfl) (by kernel_rfl) h17) (by kernel_rfl) (by kernel_rfl) rfl ?_
 refine QL.rn 3 [0] [(23, .int .u64 (u64 a0.TIp))] ?_
 obtain ⟨r18, h19, hM⟩ := bind_some hM
 refine QL.callP [] [] (gangwayref01_Bytes_calls k (u64 a0.TIp) 4 _ h19) (fun _ h => h) (by kernel_rfl) (by kernel_rfl) rfl ?_
 obtain ⟨t20, h21, hM⟩ := bind_some hM
 refine QL.val (fun _ => run_catS (a := t16) (b := r18) (by kernel_rfl) (by kernel_rfl) h21) (by kernel_rfl) (by kernel_rfl) rfl ?_
 refine QL.rn 1 [] [(2, .string t20)] ?_
 refine QL.done ?_
 refine WP.kp [false] ?_
 obtain rfl := Option.some.inj hM
 exact WP.retQ [] []
end Go.Proofs.YtlihmahekidkaaaGreatDoor
