/- The walks of the functions that the laws reach: each shows that a call returns what its plain model says, wherever the model gives an answer. -/
import Derived.Test.YtlihmahekidkaaaGreatDoorProg
import Derived.Shelf.Strings.OnBuilder
import Derived.Test.YtlihmahekidkaaaGreatDoorE2
import Derived.Test.YtlihmahekidkaaaGreatDoorE3

namespace Go.Proofs.YtlihmahekidkaaaGreatDoor
set_option maxRecDepth 100000
set_option linter.unusedVariables false
set_option linter.unusedSimpArgs false
set_option linter.unusedSectionVars false
open Go Eng
def Glob : List Pr := [fun w => w.cell? ⟨0, 0, none⟩ = some (.iface 436 (.agg #[.pointer (some ⟨2, 176, none⟩)]))]
def Bldr.ren : Go.Shelf.Ren where
 f := fun | 156 => 375 | 165 => 378 | 166 => 168 | 169 => 169 | 240 => 257 | 241 => 379 | 276 => 315 | 277 => 380 | n => n
 t := fun | 0 => 0 | 3 => 3 | 4 => 4 | 5 => 5 | 9 => 9 | 20 => 20 | 31 => 551 | 37 => 300 | 70 => 336 | 72 => 338 | 75 => 176 | 76 => 303 | 80 => 340 | 127 => 463 | 164 => 319 | n => n
 g := fun n => n
theorem Bldr.lays166 : Go.Proofs.Lays.n166 Tryz.prog Bldr.ren where
 mixed := by kernel_rfl
 f166 := by kernel_rfl
 f240 := by kernel_rfl
 f276 := by kernel_rfl
 t0 := by kernel_rfl
 a0 := (fun _ => by kernel_rfl)
 z0 := (fun _ => by kernel_rfl)
 v0 := (fun _ => by kernel_rfl)
 t3 := by kernel_rfl
 a3 := (fun _ => by kernel_rfl)
 z3 := (fun _ => by kernel_rfl)
 v3 := (fun _ => by kernel_rfl)
 t4 := by kernel_rfl
 a4 := (fun _ => by kernel_rfl)
 z4 := (fun _ => by kernel_rfl)
 v4 := (fun _ => by kernel_rfl)
 t9 := by kernel_rfl
 a9 := (fun _ => by kernel_rfl)
 z9 := (fun _ => by kernel_rfl)
 v9 := (fun _ => by kernel_rfl)
 t20 := by kernel_rfl
 a20 := (fun _ => by kernel_rfl)
 z20 := (fun _ => by kernel_rfl)
 v20 := (fun _ => by kernel_rfl)
 t37 := by kernel_rfl
 a37 := (fun _ => by kernel_rfl)
 z37 := (fun _ => by kernel_rfl)
 v37 := (fun _ => by kernel_rfl)
 t70 := by kernel_rfl
 a70 := (fun _ => by kernel_rfl)
 z70 := (fun _ => by kernel_rfl)
 v70 := (fun _ => by kernel_rfl)
 t72 := by kernel_rfl
 a72 := (fun _ => by kernel_rfl)
 z72 := (fun _ => by kernel_rfl)
 v72 := (fun _ => by kernel_rfl)
 t75 := by kernel_rfl
 a75 := (fun _ => by kernel_rfl)
 z75 := (fun _ => by kernel_rfl)
 v75 := (fun _ => by kernel_rfl)
 t164 := by kernel_rfl
 a164 := (fun _ => by kernel_rfl)
 z164 := (fun _ => by kernel_rfl)
 v164 := (fun _ => by kernel_rfl)
theorem Bldr.lays169 : Go.Proofs.Lays.n169 Tryz.prog Bldr.ren where
 mixed := by kernel_rfl
 f169 := by kernel_rfl
 t0 := by kernel_rfl
 a0 := (fun _ => by kernel_rfl)
 z0 := (fun _ => by kernel_rfl)
 v0 := (fun _ => by kernel_rfl)
 t3 := by kernel_rfl
 a3 := (fun _ => by kernel_rfl)
 z3 := (fun _ => by kernel_rfl)
 v3 := (fun _ => by kernel_rfl)
 t9 := by kernel_rfl
 a9 := (fun _ => by kernel_rfl)
 z9 := (fun _ => by kernel_rfl)
 v9 := (fun _ => by kernel_rfl)
 t37 := by kernel_rfl
 a37 := (fun _ => by kernel_rfl)
 z37 := (fun _ => by kernel_rfl)
 v37 := (fun _ => by kernel_rfl)
 t70 := by kernel_rfl
 a70 := (fun _ => by kernel_rfl)
 z70 := (fun _ => by kernel_rfl)
 v70 := (fun _ => by kernel_rfl)
 t72 := by kernel_rfl
 a72 := (fun _ => by kernel_rfl)
 z72 := (fun _ => by kernel_rfl)
 v72 := (fun _ => by kernel_rfl)
 t127 := by kernel_rfl
 a127 := (fun _ => by kernel_rfl)
 z127 := (fun _ => by kernel_rfl)
 v127 := (fun _ => by kernel_rfl)
theorem Bldr.extra : Go.Proofs.Builder.Extra Tryz.prog Bldr.ren where
 sizeBuilder := by kernel_rfl
 liesBuilder := by kernel_rfl
 t5 := by kernel_rfl
 a5 := fun _ => by kernel_rfl
 z5 := fun _ => by kernel_rfl
 v5 := fun _ => by kernel_rfl
 infoByte := by kernel_rfl
 cellsByte := by kernel_rfl
 sizeByte := by kernel_rfl
 neB5 := by decide
structure api_Tag where
 Has : Bool
 Pri : Int
 Dei : Bool
 Vid : Int
structure api_Frame where
 Dst : Int
 Src : Int
 Tag : api_Tag
 Type_ : Int
 Body : ByteArray
def api_Frame.v (x : api_Frame) : Value := .agg #[.int .u64 x.Dst, .int .u64 x.Src, .bool x.Tag.Has, .int .i64 x.Tag.Pri, .bool x.Tag.Dei, .int .i64 x.Tag.Vid, .int .i64 x.Type_, .string x.Body]
def api_Frame.o (x : api_Frame) : Obj := .cells #[.int .u64 x.Dst, .int .u64 x.Src, .bool x.Tag.Has, .int .i64 x.Tag.Pri, .bool x.Tag.Dei, .int .i64 x.Tag.Vid, .int .i64 x.Type_, .string x.Body] 26 (0, 0)
def api_Tag.v (x : api_Tag) : Value := .agg #[.bool x.Has, .int .i64 x.Pri, .bool x.Dei, .int .i64 x.Vid]
def api_Tag.o (x : api_Tag) : Obj := .cells #[.bool x.Has, .int .i64 x.Pri, .bool x.Dei, .int .i64 x.Vid] 24 (0, 0)
structure ether_reader where
 s : ByteArray
 at_ : Int
abbrev Un0 : Type := (Option (Int × Int))
def Un0.v : Un0 → Value
 | none => .nilIface
 | some (q1, q2) => .iface 532 (.agg #[.int .i64 q1, .iface 29 (.int .i64 q2)])
abbrev Un1 : Type := (Option (ByteArray × Int))
def Un1.v : Un1 → Value
 | none => .nilIface
 | some (q1, q2) => .iface 434 (.agg #[.string q1, .iface 29 (.int .i64 q2)])
def ether_reader.o (x : ether_reader) : Obj := .cells #[.string x.s, .int .i64 x.at_] 174 (0, 0)
structure api_Udp where
 Src : Int
 Dst : Int
 NoSum : Bool
 Body : ByteArray
def api_Udp.v (x : api_Udp) : Value := .agg #[.int .i64 x.Src, .int .i64 x.Dst, .bool x.NoSum, .string x.Body]
def api_Udp.o (x : api_Udp) : Obj := .cells #[.int .i64 x.Src, .int .i64 x.Dst, .bool x.NoSum, .string x.Body] 82 (0, 0)
structure api_Ip where
 Tos : Int
 Id : Int
 Whole : Bool
 More : Bool
 Off : Int
 Ttl : Int
 Proto : Int
 Src : Int
 Dst : Int
 Body : ByteArray
def api_Ip.v (x : api_Ip) : Value := .agg #[.int .i64 x.Tos, .int .i64 x.Id, .bool x.Whole, .bool x.More, .int .i64 x.Off, .int .i64 x.Ttl, .int .i64 x.Proto, .int .u32 x.Src, .int .u32 x.Dst, .string x.Body]
def api_Ip.o (x : api_Ip) : Obj := .cells #[.int .i64 x.Tos, .int .i64 x.Id, .bool x.Whole, .bool x.More, .int .i64 x.Off, .int .i64 x.Ttl, .int .i64 x.Proto, .int .u32 x.Src, .int .u32 x.Dst, .string x.Body] 314 (0, 0)
structure inet_odd where
 err : Int
abbrev Un2 : Type := (Option inet_odd)
def Un2.v : Un2 → Value
 | none => .nilIface
 | some q1 => .iface 534 (.agg #[.int .i64 q1.err])
structure api_Arp where
 Op : Int
 SMac : Int
 SIp : Int
 TMac : Int
 TIp : Int
def api_Arp.v (x : api_Arp) : Value := .agg #[.int .i64 x.Op, .int .u64 x.SMac, .int .u32 x.SIp, .int .u64 x.TMac, .int .u32 x.TIp]
def api_Arp.o (x : api_Arp) : Obj := .cells #[.int .i64 x.Op, .int .u64 x.SMac, .int .u32 x.SIp, .int .u64 x.TMac, .int .u32 x.TIp] 50 (0, 0)
structure arp_field where
 v : Int
 n : Int
def arp_field.enc (x : arp_field) : List Value := [.int .u64 x.v, .int .i64 x.n]
def arp_field.o (x : arp_field) : Obj := .cells #[.int .u64 x.v, .int .i64 x.n] 201 (0, 0)
def ether_tag.f (a0 : api_Tag) : Option (Bool) :=
 bif !a0.Has then
  some ((a0.Has == false) && ((a0.Pri == 0) && ((a0.Dei == false) && ((a0.Vid == 0) && true))))
 else
  some ((((decide (a0.Pri ≥ 0)) && (decide (a0.Pri < 8))) && (decide (a0.Vid ≥ 0))) && (decide (a0.Vid < 4096)))
theorem ether_tag_calls (a0 : api_Tag) (r : Bool) (h : ether_tag.f a0 = some r) : Pure Tryz.prog Glob 117 #[api_Tag.v a0] (.bool r) := by
 intro w Z hS
 refine callsS (args := [api_Tag.v a0]) (L := [(0, api_Tag.v a0)]) (N := 27) Tryz.func117 hS ?_
 have hM := h
 clear h hS
 unfold ether_tag.f at hM
 refine WP.seq ?_
 refine WP.rh [] (fun b1 => [(1, .pointer (some ⟨b1, 0, none⟩)), (2, .bool false)]) (fun b1 => []) (fun b1 => [(b1, api_Tag.o a0)]) (fun b1 => ?_)
 refine WP.seq (WP.seq (WP.rn [0] [(5, .bool (!a0.Has))] ?_))
 refine WP.cond (!a0.Has) rfl rfl (fun c2 => ?_) (fun c2 => ?_)
 ·replace hM := cond_t hM c2
  refine WP.seq (WP.region (WL.rn 2 [0, 0, 0, 0] [(6, api_Tag.v a0), (7, .agg #[.bool false, .int .i64 0, .bool false, .int .i64 0])] ?_))
  refine WL.val (fun _ => run_structEq (xs := #[.bool a0.Has, .int .i64 a0.Pri, .bool a0.Dei, .int .i64 a0.Vid]) (ys := #[.bool false, .int .i64 0, .bool false, .int .i64 0]) (b := ((a0.Has == false) && ((a0.Pri == 0) && ((a0.Dei == false) && ((a0.Vid == 0) && true))))) (by kernel_rfl) (by kernel_rfl) (by kernel_rfl) (by kernel_rfl)) (by kernel_rfl) (by kernel_rfl) rfl ?_
  refine WL.rn 1 [] [(2, .bool ((a0.Has == false) && ((a0.Pri == 0) && ((a0.Dei == false) && ((a0.Vid == 0) && true)))))] ?_
  refine WP.done ?_
  obtain rfl := Option.some.inj hM
  exact WP.retQ [] []
 ·replace hM := cond_f hM c2
  refine WP.skip (WP.seq (WP.region (WL.rn 4 [0] [(12, .bool (decide (a0.Pri ≥ 0)))] ?_)))
  refine WL.bo 12 (decide (a0.Pri ≥ 0)) 4 [0] [] (fun b' => [(16, .bool (b' && (decide (a0.Pri < 8))))]) ?_
  refine WL.rn 1 [] [(17, .bool ((decide (a0.Pri ≥ 0)) && (decide (a0.Pri < 8))))] ?_
  refine WL.bo 17 ((decide (a0.Pri ≥ 0)) && (decide (a0.Pri < 8))) 4 [0] [] (fun b' => [(21, .bool (b' && (decide (a0.Vid ≥ 0))))]) ?_
  refine WL.rn 1 [] [(22, .bool (((decide (a0.Pri ≥ 0)) && (decide (a0.Pri < 8))) && (decide (a0.Vid ≥ 0))))] ?_
  refine WL.bo 22 (((decide (a0.Pri ≥ 0)) && (decide (a0.Pri < 8))) && (decide (a0.Vid ≥ 0))) 4 [0] [] (fun b' => [(26, .bool (b' && (decide (a0.Vid < 4096))))]) ?_
  refine WL.rn 1 [] [(2, .bool ((((decide (a0.Pri ≥ 0)) && (decide (a0.Pri < 8))) && (decide (a0.Vid ≥ 0))) && (decide (a0.Vid < 4096))))] ?_
  refine WP.done (WP.kp [false] ?_)
  obtain rfl := Option.some.inj hM
  exact WP.retQ [] []
def ether_size.k1 (x3 : Int) : Option (Int) :=
 some x3
def ether_size.f (a0 : api_Frame) : Option (Int) :=
 bif a0.Tag.Has then
  ether_size.k1 (i64 ((i64 (14 + (a0.Body.size : Int))) + 4))
 else
  ether_size.k1 (i64 (14 + (a0.Body.size : Int)))
theorem ether_size_calls (a0 : api_Frame) (r : Int) (h : ether_size.f a0 = some r) : Pure Tryz.prog Glob 118 #[api_Frame.v a0] (.int .i64 r) := by
 intro w Z hS
 refine callsS (args := [api_Frame.v a0]) (L := [(0, api_Frame.v a0)]) (N := 14) Tryz.func118 hS ?_
 have hM := h
 clear h hS
 unfold ether_size.f at hM
 refine WP.seq ?_
 refine WP.rh [] (fun b1 => [(1, .pointer (some ⟨b1, 0, none⟩)), (2, .int .i64 0)]) (fun b1 => []) (fun b1 => [(b1, api_Frame.o a0)]) (fun b1 => ?_)
 refine WP.seq (WP.rn [0] [(3, .int .i64 (i64 (14 + (a0.Body.size : Int))))] ?_)
 refine WP.seqJoin (σ := Int) (fun st => ether_size.k1 st = some r) (fun st => [(2, .int .i64 0), (3, .int .i64 st)]) (fun st => Sat w Z [] [] Glob) (fun st hM => ?_) (fun K1 => ?_)
 ·
  obtain ⟨x3, rfl⟩ : ∃ y, y = st := ⟨st, rfl⟩
  replace hM : ether_size.k1 x3 = some r := hM
  unfold ether_size.k1 at hM
  try dsimp only
  refine WP.seq (WP.rn [] [(2, .int .i64 x3)] ?_)
  obtain rfl := Option.some.inj hM
  exact WP.retQ [] []
 ·
  refine WP.seq (WP.rn [0] [(10, .bool a0.Tag.Has)] ?_)
  refine WP.kp [false] ?_
  refine WP.cond a0.Tag.Has rfl rfl (fun c2 => ?_) (fun c2 => ?_)
  ·replace hM := cond_t hM c2
   refine WP.rn [] [(3, .int .i64 (i64 ((i64 (14 + (a0.Body.size : Int))) + 4)))] ?_
   exact WP.sub [2, 3] (by kernel_rfl) (WP.pick [] (by kernel_rfl) (by kernel_rfl) (K1 (i64 ((i64 (14 + (a0.Body.size : Int))) + 4)) hM))
  ·replace hM := cond_f hM c2
   refine WP.skip ?_
   exact WP.sub [2, 3] (by kernel_rfl) (WP.pick [] (by kernel_rfl) (by kernel_rfl) (K1 (i64 (14 + (a0.Body.size : Int))) hM))
def ether_Check.k1 (a0 : api_Frame) (x7 : Bool) : Option (Int) :=
 bif x7 then
  some 41
 else
  bif ((a0.Type_ == 0) && (decide ((a0.Body.size : Int) > 1500))) then
   some 40
  else
   (ether_size.f a0).bind fun r10 =>
   bif decide (r10 > 1600) then
    some 41
   else
    some 0
def ether_Check.k2 (a0 : api_Frame) (x5 : Bool) : Option (Int) :=
 bif x5 then
  ether_Check.k1 a0 true
 else
  ether_Check.k1 a0 ((a0.Type_ != 0) && (!(((decide (a0.Type_ ≥ 1536)) && (decide (a0.Type_ ≤ 65535))) && (a0.Type_ != 33024))))
def ether_Check.f (a0 : api_Frame) : Option (Int) :=
 bif ((decide (a0.Dst ≥ 281474976710656)) || (decide (a0.Src ≥ 281474976710656))) then
  ether_Check.k2 a0 true
 else
  (ether_tag.f a0.Tag).bind fun r3 =>
  ether_Check.k2 a0 (!r3)
theorem ether_Check_calls (a0 : api_Frame) (r : Int) (h : ether_Check.f a0 = some r) : Pure Tryz.prog Glob 51 #[api_Frame.v a0] (.int .i64 r) := by
 intro w Z hS
 refine callsS (args := [api_Frame.v a0]) (L := [(0, api_Frame.v a0)]) (N := 55) Tryz.func51 hS ?_
 have hM := h
 clear h hS
 unfold ether_Check.f at hM
 refine WP.seq ?_
 refine WP.rh [] (fun b1 => [(1, .pointer (some ⟨b1, 0, none⟩)), (2, .int .i64 0)]) (fun b1 => []) (fun b1 => [(b1, api_Frame.o a0)]) (fun b1 => ?_)
 refine WP.seq (WP.region (WL.rn 4 [0] [(7, .bool (decide (a0.Type_ ≥ 1536)))] ?_))
 refine WL.bo 7 (decide (a0.Type_ ≥ 1536)) 4 [0] [] (fun b' => [(11, .bool (b' && (decide (a0.Type_ ≤ 65535))))]) ?_
 refine WL.rn 1 [] [(12, .bool ((decide (a0.Type_ ≥ 1536)) && (decide (a0.Type_ ≤ 65535))))] ?_
 refine WL.bo 12 ((decide (a0.Type_ ≥ 1536)) && (decide (a0.Type_ ≤ 65535))) 4 [0] [] (fun b' => [(16, .bool (b' && (a0.Type_ != 33024)))]) ?_
 refine WL.rn 1 [] [(3, .bool (((decide (a0.Type_ ≥ 1536)) && (decide (a0.Type_ ≤ 65535))) && (a0.Type_ != 33024)))] ?_
 refine WP.done (WP.seq (WP.block (WP.seq (WP.region (WL.rn 4 [0] [(21, .bool (decide (a0.Dst ≥ 281474976710656)))] ?_)))))
 refine WL.bo 21 (decide (a0.Dst ≥ 281474976710656)) 4 [] [0] (fun b' => [(25, .bool (b' || (decide (a0.Src ≥ 281474976710656))))]) ?_
 refine WL.rn 1 [] [(26, .bool ((decide (a0.Dst ≥ 281474976710656)) || (decide (a0.Src ≥ 281474976710656))))] ?_
 refine WL.join (σ := Bool) 5 (fun st => ether_Check.k2 a0 st = some r) (fun st => [(1, .pointer (some ⟨b1, 0, none⟩)), (2, .int .i64 0), (3, .bool (((decide (a0.Type_ ≥ 1536)) && (decide (a0.Type_ ≤ 65535))) && (a0.Type_ != 33024))), (31, .bool st)]) (fun st => Sat w Z [(b1, api_Frame.o a0)] [] Glob) (fun st hM => ?_) (fun K2 => ?_)
 ·
  obtain ⟨x5, rfl⟩ : ∃ y, y = st := ⟨st, rfl⟩
  replace hM : ether_Check.k2 a0 x5 = some r := hM
  unfold ether_Check.k2 at hM
  try dsimp only
  refine WL.rn 1 [] [(32, .bool x5)] ?_
  refine WL.join (σ := Bool) 8 (fun st => ether_Check.k1 a0 st = some r) (fun st => [(1, .pointer (some ⟨b1, 0, none⟩)), (2, .int .i64 0), (40, .bool st)]) (fun st => Sat w Z [(b1, api_Frame.o a0)] [] Glob) (fun st hM => ?_) (fun K1 => ?_)
  ·
   obtain ⟨x7, rfl⟩ : ∃ y, y = st := ⟨st, rfl⟩
   replace hM : ether_Check.k1 a0 x7 = some r := hM
   unfold ether_Check.k1 at hM
   try dsimp only
   refine WL.rn 1 [] [(17, .bool x7)] ?_
   refine WP.done ?_
   refine WP.cond x7 rfl rfl (fun c8 => ?_) (fun c8 => ?_)
   ·replace hM := cond_t hM c8
    refine WP.seq (WP.rn [] [(2, .int .i64 41)] ?_)
    refine WP.kp [false] ?_
    obtain rfl := Option.some.inj hM
    exact WP.retQ [] []
   ·replace hM := cond_f hM c8
    refine WP.seq (WP.region (WL.rn 4 [0] [(45, .bool (a0.Type_ == 0))] ?_))
    refine WL.bo 45 (a0.Type_ == 0) 5 [0] [] (fun b' => [(50, .bool (b' && (decide ((a0.Body.size : Int) > 1500))))]) ?_
    refine WL.rn 1 [] [(41, .bool ((a0.Type_ == 0) && (decide ((a0.Body.size : Int) > 1500))))] ?_
    refine WP.done ?_
    refine WP.cond ((a0.Type_ == 0) && (decide ((a0.Body.size : Int) > 1500))) rfl rfl (fun c9 => ?_) (fun c9 => ?_)
    ·replace hM := cond_t hM c9
     refine WP.seq (WP.rn [] [(2, .int .i64 40)] ?_)
     refine WP.kp [false] ?_
     obtain rfl := Option.some.inj hM
     exact WP.retQ [] []
    ·replace hM := cond_f hM c9
     refine WP.seq (WP.region (WL.rn 1 [0, 0, 0, 0, 0, 0, 0, 0] [(52, api_Frame.v a0)] ?_))
     obtain ⟨r10, h11, hM⟩ := bind_some hM
     refine WL.callP [] [] (ether_size_calls a0 _ h11) (fun _ h => h) (by kernel_rfl) (by kernel_rfl) rfl ?_
     refine WL.rn 2 [] [(51, .bool (decide (r10 > 1600)))] ?_
     refine WP.done (WP.kp [false] ?_)
     refine WP.cond (decide (r10 > 1600)) rfl rfl (fun c12 => ?_) (fun c12 => ?_)
     ·replace hM := cond_t hM c12
      refine WP.seq (WP.rn [] [(2, .int .i64 41)] ?_)
      obtain rfl := Option.some.inj hM
      exact WP.retQ [] []
     ·replace hM := cond_f hM c12
      refine WP.skip (WP.leave (WP.seq (WP.rn [] [(2, .int .i64 0)] ?_)))
      obtain rfl := Option.some.inj hM
      exact WP.retQ [] []
  ·
   refine WL.sp 32 x5 (fun c6 => ?_) (fun c6 => ?_)
   ·replace hM := cond_t hM c6
    refine WL.rn 8 [] [(40, .bool true)] ?_
    exact WL.sub [1, 2, 40] (by kernel_rfl) (WL.pick [0] (by kernel_rfl) (by kernel_rfl) (K1 true hM))
   ·replace hM := cond_f hM c6
    refine WL.rn 4 [0] [(36, .bool (a0.Type_ != 0))] ?_
    refine WL.bo 36 (a0.Type_ != 0) 3 [] [] (fun b' => [(39, .bool (b' && (!(((decide (a0.Type_ ≥ 1536)) && (decide (a0.Type_ ≤ 65535))) && (a0.Type_ != 33024)))))]) ?_
    refine WL.rn 1 [] [(40, .bool ((a0.Type_ != 0) && (!(((decide (a0.Type_ ≥ 1536)) && (decide (a0.Type_ ≤ 65535))) && (a0.Type_ != 33024)))))] ?_
    exact WL.sub [1, 2, 40] (by kernel_rfl) (WL.pick [0] (by kernel_rfl) (by kernel_rfl) (K1 ((a0.Type_ != 0) && (!(((decide (a0.Type_ ≥ 1536)) && (decide (a0.Type_ ≤ 65535))) && (a0.Type_ != 33024)))) hM))
 ·
  refine WL.sp 26 ((decide (a0.Dst ≥ 281474976710656)) || (decide (a0.Src ≥ 281474976710656))) (fun c2 => ?_) (fun c2 => ?_)
  ·replace hM := cond_t hM c2
   refine WL.rn 5 [] [(31, .bool true)] ?_
   exact WL.sub [1, 2, 3, 31] (by kernel_rfl) (WL.pick [0] (by kernel_rfl) (by kernel_rfl) (K2 true hM))
  ·replace hM := cond_f hM c2
   refine WL.rn 2 [0, 0, 0, 0] [(28, api_Tag.v a0.Tag)] ?_
   obtain ⟨r3, h4, hM⟩ := bind_some hM
   refine WL.callP [] [] (ether_tag_calls a0.Tag _ h4) (fun _ h => h) (by kernel_rfl) (by kernel_rfl) rfl ?_
   refine WL.rn 2 [] [(31, .bool (!r3))] ?_
   exact WL.sub [1, 2, 3, 31] (by kernel_rfl) (WL.pick [0] (by kernel_rfl) (by kernel_rfl) (K2 (!r3) hM))
def octets_Put.l3 (t8 : Nat) (a0 : Int) (a1 : Int) : Nat → Int → (List Int) → Option (ByteArray × Int)
 | 0, _, _ => none
 | n + 1, x17, x18 =>
  bif decide (x17 < (t8 : Int)) then
   (shrI .u64 a0 (i64 (8 * x17))).bind fun t20 =>
   (getL t8 x18 (i64 ((i64 (a1 - 1)) - x17))).bind fun t22 =>
   octets_Put.l3 t8 a0 a1 n (i64 (x17 + 1)) (List.set x18 (i64 ((i64 (a1 - 1)) - x17)).toNat (u8 t20))
  else
   (strOf t8 x18).bind fun t24 =>
   some (t24, 0)
def octets_Put.k2 (a1 : Int) (a0 : Int) (k : Nat) (x6 : Bool) : Option (ByteArray × Int) :=
 bif x6 then
  some ((⟨#[]⟩ : ByteArray), 1)
 else
  (mkLen 1 a1).bind fun t8 =>
  octets_Put.l3 t8 a0 a1 k 0 (List.replicate t8 0)
def octets_Put.k1 (a1 : Int) (a0 : Int) (k : Nat) (x5 : Bool) : Option (ByteArray × Int) :=
 octets_Put.k2 a1 a0 k x5
def octets_Put.f (k : Nat) (a0 : Int) (a1 : Int) : Option (ByteArray × Int) :=
 bif ((decide (a1 < 1)) || (decide (a1 > 8))) then
  octets_Put.k2 a1 a0 k true
 else
  bif decide (a1 < 8) then
   (shrI .u64 a0 (i64 (8 * a1))).bind fun t3 =>
   octets_Put.k1 a1 a0 k (t3 != 0)
  else
   octets_Put.k1 a1 a0 k false
theorem octets_Put_calls (k : Nat) (a0 : Int) (a1 : Int) (r : ByteArray × Int) (h : octets_Put.f k a0 a1 = some r) : Pure Tryz.prog Glob 119 #[.int .u64 a0, .int .i64 a1] (.tuple #[.string r.1, .int .i64 r.2]) := by
 intro w Z hS
 refine callsS (args := [.int .u64 a0, .int .i64 a1]) (L := [(0, .int .u64 a0), (1, .int .i64 a1)]) (N := 46) Tryz.func119 hS ?_
 have hM := h
 clear h hS
 unfold octets_Put.f at hM
 refine WP.seq ?_
 refine WP.rn [] [(4, .string (⟨#[]⟩ : ByteArray)), (5, .int .i64 0)] ?_
 refine WP.seq (WP.seq (WP.region (WL.rn 3 [] [(10, .bool (decide (a1 < 1)))] ?_)))
 refine WL.bo 10 (decide (a1 < 1)) 3 [] [] (fun b' => [(13, .bool (b' || (decide (a1 > 8))))]) ?_
 refine WL.rn 1 [] [(14, .bool ((decide (a1 < 1)) || (decide (a1 > 8))))] ?_
 refine WL.join (σ := Bool) 10 (fun st => octets_Put.k2 a1 a0 k st = some r) (fun st => [(0, .int .u64 a0), (1, .int .i64 a1), (4, .string (⟨#[]⟩ : ByteArray)), (5, .int .i64 0), (24, .bool st)]) (fun st => Sat w Z [] [] Glob) (fun st hM => ?_) (fun K2 => ?_)
 ·
  obtain ⟨x6, rfl⟩ : ∃ y, y = st := ⟨st, rfl⟩
  replace hM : octets_Put.k2 a1 a0 k x6 = some r := hM
  unfold octets_Put.k2 at hM
  try dsimp only
  refine WP.done ?_
  refine WP.cond x6 rfl rfl (fun c7 => ?_) (fun c7 => ?_)
  ·replace hM := cond_t hM c7
   refine WP.seq ?_
   refine WP.rn [] [(4, .string (⟨#[]⟩ : ByteArray)), (5, .int .i64 1)] ?_
   obtain rfl := Option.some.inj hM
   exact WP.retQ [] []
  ·replace hM := cond_f hM c7
   refine WP.skip (WP.seq (WP.region (WL.rn 1 [] [(25, .int .i64 a1)] ?_)))
   obtain ⟨t8, h9, hM⟩ := bind_some hM
   refine WL.makeSlice (f := (encI .u8)) (z := 0) (zv := .int .u8 0) (i := a1) (k := .i64) (e := 5) (by kernel_rfl) (by kernel_rfl) rfl Nat.zero_lt_one (fun _ => rfl) (by kernel_rfl) (by kernel_rfl) h9 (by kernel_rfl) rfl (fun b10 => ?_)
   refine WL.rn 1 [] [(6, .slice (some ⟨b10, 0, none⟩) t8 t8)] ?_
   refine WP.done (WP.seq (WP.seq (WP.rn [] [(28, .int .i64 (t8 : Int)), (29, .int .i64 0)] ?_)))
   refine WP.block ?_
   refine WP.sub [0, 1, 4, 5, 6, 28, 29] (L' := [(0, .int .u64 a0), (1, .int .i64 a1), (4, .string (⟨#[]⟩ : ByteArray)), (5, .int .i64 0), (6, .slice (some ⟨b10, 0, none⟩) t8 t8), (28, .int .i64 (t8 : Int)), (29, .int .i64 0)]) (by kernel_rfl) ?_
   refine WP.loop (σ := Int × (List Int)) (fun n st => octets_Put.l3 t8 a0 a1 n st.1 st.2) r (fun st => [(0, .int .u64 a0), (1, .int .i64 a1), (4, .string (⟨#[]⟩ : ByteArray)), (5, .int .i64 0), (6, .slice (some ⟨b10, 0, none⟩) t8 t8), (28, .int .i64 (t8 : Int)), (29, .int .i64 st.1)]) (fun st => Sat w Z [(b10, .cells (rowF (encI .u8) st.2) 5 (0, 0))] [] Glob) (st := (0, (List.replicate t8 0))) (fun n st hM => ?_) hM
   rcases n with _ | n
   ·exact nomatch (show (none : Option _) = some r from hM)
   obtain ⟨x17, x18⟩ := st
   replace hM : octets_Put.l3 t8 a0 a1 (n + 1) x17 x18 = some r := hM
   rw [octets_Put.l3] at hM
   try dsimp only
   refine WP.seq (WP.rn [] [(30, .bool (decide (x17 < (t8 : Int))))] ?_)
   refine WP.seq ?_
   refine WP.cond (decide (x17 < (t8 : Int))) rfl rfl (fun c19 => ?_) (fun c19 => ?_)
   ·replace hM := cond_t hM c19
    refine WP.skip (WP.seq (WP.block (WP.seq (WP.rn [] [(7, .int .i64 x17), (31, .int .i64 x17)] ?_))))
    refine WP.region ?_
    refine WL.rn 8 [] [(32, .slice (some ⟨b10, 0, none⟩) t8 t8), (33, .int .i64 a1), (34, .int .i64 (i64 (a1 - 1))), (35, .int .i64 x17), (36, .int .i64 (i64 ((i64 (a1 - 1)) - x17))), (37, .int .u64 a0), (38, .int .i64 x17), (39, .int .i64 (i64 (8 * x17)))] ?_
    obtain ⟨t20, h21, hM⟩ := bind_some hM
    refine WL.val (fun _ => run_shr (k := .u64) (k' := .i64) (a := a0) (b := i64 (8 * x17)) (by kernel_rfl) (by kernel_rfl) h21) (by kernel_rfl) (by kernel_rfl) rfl ?_
    refine WL.rn 1 [] [(41, .int .u8 (u8 t20))] ?_
    obtain ⟨t22, h23, hM⟩ := bind_some hM
    refine WL.val (fun _ => run_indexAddr (i := i64 ((i64 (a1 - 1)) - x17)) (k := .i64) (b := b10) (o := 0) (n := t8) (c := t8) (e := 5) (sz := 1) (by kernel_rfl) (by kernel_rfl) (by kernel_rfl) (by kernel_rfl) (getL_parts h23).1) (by kernel_rfl) (by kernel_rfl) rfl ?_
    refine WL.storeCell (b := b10) (off := 0 + (i64 ((i64 (a1 - 1)) - x17)).toNat * 1) (e := 5) (H' := [(b10, .cells (rowF (encI .u8) (List.set x18 (i64 ((i64 (a1 - 1)) - x17)).toNat (u8 t20))) 5 (0, 0))]) (v := .int .u8 (u8 t20)) (u := .int .u8 t22) 0 (fun _ => by kernel_rfl) (by kernel_rfl) (by kernel_rfl) (by kernel_rfl) (by kernel_rfl) rfl (by kernel_rfl) (rowF_at0 (f := (encI .u8)) (m := 1) (fun _ => rfl) Nat.zero_lt_one h23) (rowF_set0 (f := (encI .u8)) (m := 1) (x' := u8 t20) (fun _ => rfl) Nat.zero_lt_one h23 rfl) (by kernel_rfl) (by kernel_rfl) ?_
    refine WP.done (WP.leave (WP.rn [] [(29, .int .i64 (i64 (x17 + 1))), (43, .int .i64 (i64 (x17 + 1)))] ?_))
    exact WP.again' [0, 1, 4, 5, 6, 28, 29] (i64 (x17 + 1), (List.set x18 (i64 ((i64 (a1 - 1)) - x17)).toNat (u8 t20))) hM (by kernel_rfl) (fun _ h => h.pick [0] (by kernel_rfl))
   ·replace hM := cond_f hM c19
    refine WP.exit rfl (WP.seq (WP.region ?_))
    refine WL.rn 1 [] [(44, .slice (some ⟨b10, 0, none⟩) t8 t8)] ?_
    obtain ⟨t24, h25, hM⟩ := bind_some hM
    refine WL.strOf (b := b10) (n := t8) (c := t8) (xs := x18) (e0 := 5) (fr := (0, 0)) 0 (e := 5) (by kernel_rfl) (by kernel_rfl) (by kernel_rfl) (by kernel_rfl) (by kernel_rfl) (by kernel_rfl) h25 (by kernel_rfl) rfl ?_
    refine WL.rn 2 [] [(4, .string t24), (5, .int .i64 0)] ?_
    refine WP.done (WP.kp [false] ?_)
    obtain rfl := Option.some.inj hM
    exact WP.retQ [] []
 ·
  refine WL.sp 14 ((decide (a1 < 1)) || (decide (a1 > 8))) (fun c1 => ?_) (fun c1 => ?_)
  ·replace hM := cond_t hM c1
   refine WL.rn 10 [] [(24, .bool true)] ?_
   exact WL.sub [0, 1, 4, 5, 24] (by kernel_rfl) (WL.pick [] (by kernel_rfl) (by kernel_rfl) (K2 true hM))
  ·replace hM := cond_f hM c1
   refine WL.rn 3 [] [(17, .bool (decide (a1 < 8)))] ?_
   refine WL.join (σ := Bool) 6 (fun st => octets_Put.k1 a1 a0 k st = some r) (fun st => [(0, .int .u64 a0), (1, .int .i64 a1), (4, .string (⟨#[]⟩ : ByteArray)), (5, .int .i64 0), (14, .bool false), (23, .bool st)]) (fun st => Sat w Z [] [] Glob) (fun st hM => ?_) (fun K1 => ?_)
   ·
    obtain ⟨x5, rfl⟩ : ∃ y, y = st := ⟨st, rfl⟩
    replace hM : octets_Put.k1 a1 a0 k x5 = some r := hM
    unfold octets_Put.k1 at hM
    try dsimp only
    refine WL.rn 1 [] [(24, .bool x5)] ?_
    exact WL.sub [0, 1, 4, 5, 24] (by kernel_rfl) (WL.pick [] (by kernel_rfl) (by kernel_rfl) (K2 x5 hM))
   ·
    refine WL.sp 17 (decide (a1 < 8)) (fun c2 => ?_) (fun c2 => ?_)
    ·replace hM := cond_t hM c2
     refine WL.rn 3 [] [(18, .int .u64 a0), (20, .int .i64 (i64 (8 * a1)))] ?_
     obtain ⟨t3, h4, hM⟩ := bind_some hM
     refine WL.val (fun _ => run_shr (k := .u64) (k' := .i64) (a := a0) (b := i64 (8 * a1)) (by kernel_rfl) (by kernel_rfl) h4) (by kernel_rfl) (by kernel_rfl) rfl ?_
     refine WL.rn 2 [] [(23, .bool (t3 != 0))] ?_
     exact WL.sub [0, 1, 4, 5, 14, 23] (by kernel_rfl) (WL.pick [] (by kernel_rfl) (by kernel_rfl) (K1 (t3 != 0) hM))
    ·replace hM := cond_f hM c2
     refine WL.rn 6 [] [(23, .bool false)] ?_
     exact WL.sub [0, 1, 4, 5, 14, 23] (by kernel_rfl) (WL.pick [] (by kernel_rfl) (by kernel_rfl) (K1 false hM))
def ether_put.f (k : Nat) (a0 : Int) (a1 : Int) : Option (ByteArray) :=
 (octets_Put.f k a0 a1).bind fun (r1, r2) =>
 some r1
theorem ether_put_calls (k : Nat) (a0 : Int) (a1 : Int) (r : ByteArray) (h : ether_put.f k a0 a1 = some r) : Pure Tryz.prog Glob 52 #[.int .u64 a0, .int .i64 a1] (.string r) := by
 intro w Z hS
 refine callsS (args := [.int .u64 a0, .int .i64 a1]) (L := [(0, .int .u64 a0), (1, .int .i64 a1)]) (N := 14) Tryz.func52 hS ?_
 have hM := h
 clear h hS
 unfold ether_put.f at hM
 refine WP.seq ?_
 refine WP.rn [] [(4, .string (⟨#[]⟩ : ByteArray))] ?_
 refine WP.seq (WP.region (WL.rn 2 [] [(8, .int .u64 a0), (9, .int .i64 a1)] ?_))
 obtain ⟨⟨r1, r2⟩, h3, hM⟩ := bind_some hM
 dsimp only at hM
 refine WL.callP [] [] (octets_Put_calls k a0 a1 _ h3) (fun _ h => h) (by kernel_rfl) (by kernel_rfl) rfl ?_
 refine WL.rn 5 [] [(5, .string r1)] ?_
 refine WP.done (WP.seq (WP.rn [] [(4, .string r1)] ?_))
 obtain rfl := Option.some.inj hM
 exact WP.retQ [] []
def ether_info.k1 (x3 : Int) : Option (Int) :=
 some (u64 x3)
def ether_info.f (a0 : api_Tag) : Option (Int) :=
 bif a0.Dei then
  ether_info.k1 (bOr .i64 (bOr .i64 (i64 (a0.Pri * 8192)) a0.Vid) 4096)
 else
  ether_info.k1 (bOr .i64 (i64 (a0.Pri * 8192)) a0.Vid)
theorem ether_info_calls (a0 : api_Tag) (r : Int) (h : ether_info.f a0 = some r) : Pure Tryz.prog Glob 53 #[api_Tag.v a0] (.int .u64 r) := by
 intro w Z hS
 refine callsS (args := [api_Tag.v a0]) (L := [(0, api_Tag.v a0)]) (N := 16) Tryz.func53 hS ?_
 have hM := h
 clear h hS
 unfold ether_info.f at hM
 refine WP.seq ?_
 refine WP.rh [] (fun b1 => [(1, .pointer (some ⟨b1, 0, none⟩)), (2, .int .u64 0)]) (fun b1 => []) (fun b1 => [(b1, api_Tag.o a0)]) (fun b1 => ?_)
 refine WP.seq (WP.rn [0, 0] [(3, .int .i64 (bOr .i64 (i64 (a0.Pri * 8192)) a0.Vid))] ?_)
 refine WP.seqJoin (σ := Int) (fun st => ether_info.k1 st = some r) (fun st => [(2, .int .u64 0), (3, .int .i64 st)]) (fun st => Sat w Z [] [] Glob) (fun st hM => ?_) (fun K1 => ?_)
 ·
  obtain ⟨x3, rfl⟩ : ∃ y, y = st := ⟨st, rfl⟩
  replace hM : ether_info.k1 x3 = some r := hM
  unfold ether_info.k1 at hM
  try dsimp only
  refine WP.seq (WP.rn [] [(2, .int .u64 (u64 x3))] ?_)
  obtain rfl := Option.some.inj hM
  exact WP.retQ [] []
 ·
  refine WP.seq (WP.rn [0] [(11, .bool a0.Dei)] ?_)
  refine WP.kp [false] ?_
  refine WP.cond a0.Dei rfl rfl (fun c2 => ?_) (fun c2 => ?_)
  ·replace hM := cond_t hM c2
   refine WP.rn [] [(3, .int .i64 (bOr .i64 (bOr .i64 (i64 (a0.Pri * 8192)) a0.Vid) 4096))] ?_
   exact WP.sub [2, 3] (by kernel_rfl) (WP.pick [] (by kernel_rfl) (by kernel_rfl) (K1 (bOr .i64 (bOr .i64 (i64 (a0.Pri * 8192)) a0.Vid) 4096) hM))
  ·replace hM := cond_f hM c2
   refine WP.skip ?_
   exact WP.sub [2, 3] (by kernel_rfl) (WP.pick [] (by kernel_rfl) (by kernel_rfl) (K1 (bOr .i64 (i64 (a0.Pri * 8192)) a0.Vid) hM))
def ether_Build.k1 (k : Nat) (x22 : ByteArray) (a0 : api_Frame) (x24 : Int) : Option (ByteArray × Int) :=
 (ether_put.f k (u64 x24) 2).bind fun r25 =>
 (catS x22 r25).bind fun t27 =>
 (catS t27 a0.Body).bind fun t29 =>
 some (t29, 0)
def ether_Build.k2 (a0 : api_Frame) (k : Nat) (x22 : ByteArray) : Option (ByteArray × Int) :=
 bif (a0.Type_ == 0) then
  ether_Build.k1 k x22 a0 (a0.Body.size : Int)
 else
  ether_Build.k1 k x22 a0 a0.Type_
def ether_Build.f (k : Nat) (a0 : api_Frame) : Option (ByteArray × Int) :=
 (ether_Check.f a0).bind fun r2 =>
 bif (r2 != 0) then
  some ((⟨#[]⟩ : ByteArray), r2)
 else
  (ether_put.f k a0.Dst 6).bind fun r5 =>
  (ether_put.f k a0.Src 6).bind fun r7 =>
  (catS r5 r7).bind fun t9 =>
  bif a0.Tag.Has then
   (ether_put.f k 33024 2).bind fun r12 =>
   (ether_info.f a0.Tag).bind fun r14 =>
   (ether_put.f k r14 2).bind fun r16 =>
   (catS r12 r16).bind fun t18 =>
   (catS t9 t18).bind fun t20 =>
   ether_Build.k2 a0 k t20
  else
   ether_Build.k2 a0 k t9
theorem ether_Build_calls (k : Nat) (a0 : api_Frame) (r : ByteArray × Int) (h : ether_Build.f k a0 = some r) : Pure Tryz.prog Glob 17 #[api_Frame.v a0] (.tuple #[.string r.1, .int .i64 r.2]) := by
 intro w Z hS
 refine callsS (args := [api_Frame.v a0]) (L := [(0, api_Frame.v a0)]) (N := 45) Tryz.func17 hS ?_
 have hM := h
 clear h hS
 unfold ether_Build.f at hM
 refine WP.seq ?_
 refine WP.rh [] (fun b1 => [(1, .pointer (some ⟨b1, 0, none⟩)), (2, .string (⟨#[]⟩ : ByteArray)), (3, .int .i64 0)]) (fun b1 => []) (fun b1 => [(b1, api_Frame.o a0)]) (fun b1 => ?_)
 refine WP.seq (WP.seq (WP.region (WL.rn 1 [0, 0, 0, 0, 0, 0, 0, 0] [(7, api_Frame.v a0)] ?_)))
 obtain ⟨r2, h3, hM⟩ := bind_some hM
 refine WL.callP [] [] (ether_Check_calls a0 _ h3) (fun _ h => h) (by kernel_rfl) (by kernel_rfl) rfl ?_
 refine WL.rn 1 [] [(4, .int .i64 r2)] ?_
 refine WP.done (WP.seq (WP.rn [] [(10, .bool (r2 != 0))] ?_))
 refine WP.cond (r2 != 0) rfl rfl (fun c4 => ?_) (fun c4 => ?_)
 ·replace hM := cond_t hM c4
  refine WP.seq ?_
  refine WP.rn [] [(2, .string (⟨#[]⟩ : ByteArray)), (3, .int .i64 r2)] ?_
  obtain rfl := Option.some.inj hM
  exact WP.retQ [] []
 ·replace hM := cond_f hM c4
  refine WP.skip (WP.seq (WP.quiet (by kernel_rfl) (by kernel_rfl) ?_))
  refine QL.rn 2 [0] [(13, .int .u64 a0.Dst)] ?_
  obtain ⟨r5, h6, hM⟩ := bind_some hM
  refine QL.callP [] [] (ether_put_calls k a0.Dst 6 _ h6) (fun _ h => h) (by kernel_rfl) (by kernel_rfl) rfl ?_
  refine QL.rn 2 [0] [(16, .int .u64 a0.Src)] ?_
  obtain ⟨r7, h8, hM⟩ := bind_some hM
  refine QL.callP [] [] (ether_put_calls k a0.Src 6 _ h8) (fun _ h => h) (by kernel_rfl) (by kernel_rfl) rfl ?_
  obtain ⟨t9, h10, hM⟩ := bind_some hM
  refine QL.val (fun _ => run_catS (a := r5) (b := r7) (by kernel_rfl) (by kernel_rfl) h10) (by kernel_rfl) (by kernel_rfl) rfl ?_
  refine QL.rn 1 [] [(5, .string t9)] ?_
  refine QL.done ?_
  refine WP.seqJoin (σ := ByteArray) (fun st => ether_Build.k2 a0 k st = some r) (fun st => [(1, .pointer (some ⟨b1, 0, none⟩)), (2, .string (⟨#[]⟩ : ByteArray)), (3, .int .i64 0), (5, .string st)]) (fun st => Sat w Z [(b1, api_Frame.o a0)] [] Glob) (fun st hM => ?_) (fun K2 => ?_)
  ·
   obtain ⟨x22, rfl⟩ : ∃ y, y = st := ⟨st, rfl⟩
   replace hM : ether_Build.k2 a0 k x22 = some r := hM
   unfold ether_Build.k2 at hM
   try dsimp only
   refine WP.seq (WP.rn [0] [(6, .int .i64 a0.Type_)] ?_)
   refine WP.seqJoin (σ := Int) (fun st => ether_Build.k1 k x22 a0 st = some r) (fun st => [(1, .pointer (some ⟨b1, 0, none⟩)), (2, .string (⟨#[]⟩ : ByteArray)), (3, .int .i64 0), (5, .string x22), (6, .int .i64 st)]) (fun st => Sat w Z [(b1, api_Frame.o a0)] [] Glob) (fun st hM => ?_) (fun K1 => ?_)
   ·
    obtain ⟨x24, rfl⟩ : ∃ y, y = st := ⟨st, rfl⟩
    replace hM : ether_Build.k1 k x22 a0 x24 = some r := hM
    unfold ether_Build.k1 at hM
    try dsimp only
    refine WP.seq (WP.quiet (by kernel_rfl) (by kernel_rfl) ?_)
    refine QL.rn 3 [] [(37, .string x22), (39, .int .u64 (u64 x24))] ?_
    obtain ⟨r25, h26, hM⟩ := bind_some hM
    refine QL.callP [] [] (ether_put_calls k (u64 x24) 2 _ h26) (fun _ h => h) (by kernel_rfl) (by kernel_rfl) rfl ?_
    obtain ⟨t27, h28, hM⟩ := bind_some hM
    refine QL.val (fun _ => run_catS (a := x22) (b := r25) (by kernel_rfl) (by kernel_rfl) h28) (by kernel_rfl) (by kernel_rfl) rfl ?_
    refine QL.rn 2 [0] [(43, .string a0.Body)] ?_
    obtain ⟨t29, h30, hM⟩ := bind_some hM
    refine QL.val (fun _ => run_catS (a := t27) (b := a0.Body) (by kernel_rfl) (by kernel_rfl) h30) (by kernel_rfl) (by kernel_rfl) rfl ?_
    refine QL.rn 2 [] [(2, .string t29), (3, .int .i64 0)] ?_
    refine QL.done ?_
    refine WP.kp [false] ?_
    obtain rfl := Option.some.inj hM
    exact WP.retQ [] []
   ·
    refine WP.seq (WP.rn [] [(33, .bool (a0.Type_ == 0))] ?_)
    refine WP.cond (a0.Type_ == 0) rfl rfl (fun c23 => ?_) (fun c23 => ?_)
    ·replace hM := cond_t hM c23
     refine WP.rn [0] [(6, .int .i64 (a0.Body.size : Int))] ?_
     exact WP.sub [1, 2, 3, 5, 6] (by kernel_rfl) (WP.pick [0] (by kernel_rfl) (by kernel_rfl) (K1 (a0.Body.size : Int) hM))
    ·replace hM := cond_f hM c23
     refine WP.skip ?_
     exact WP.sub [1, 2, 3, 5, 6] (by kernel_rfl) (WP.pick [0] (by kernel_rfl) (by kernel_rfl) (K1 a0.Type_ hM))
  ·
   refine WP.seq (WP.rn [0] [(21, .bool a0.Tag.Has)] ?_)
   refine WP.cond a0.Tag.Has rfl rfl (fun c11 => ?_) (fun c11 => ?_)
   ·replace hM := cond_t hM c11
    refine WP.quiet (by kernel_rfl) (by kernel_rfl) ?_
    refine QL.rn 1 [] [(22, .string t9)] ?_
    obtain ⟨r12, h13, hM⟩ := bind_some hM
    refine QL.callP [] [] (ether_put_calls k 33024 2 _ h13) (fun _ h => h) (by kernel_rfl) (by kernel_rfl) rfl ?_
    refine QL.rn 2 [0, 0, 0, 0] [(25, api_Tag.v a0.Tag)] ?_
    obtain ⟨r14, h15, hM⟩ := bind_some hM
    refine QL.callP [] [] (ether_info_calls a0.Tag _ h15) (fun _ h => h) (by kernel_rfl) (by kernel_rfl) rfl ?_
    obtain ⟨r16, h17, hM⟩ := bind_some hM
    refine QL.callP [] [] (ether_put_calls k r14 2 _ h17) (fun _ h => h) (by kernel_rfl) (by kernel_rfl) rfl ?_
    obtain ⟨t18, h19, hM⟩ := bind_some hM
    refine QL.val (fun _ => run_catS (a := r12) (b := r16) (by kernel_rfl) (by kernel_rfl) h19) (by kernel_rfl) (by kernel_rfl) rfl ?_
    obtain ⟨t20, h21, hM⟩ := bind_some hM
    refine QL.val (fun _ => run_catS (a := t9) (b := t18) (by kernel_rfl) (by kernel_rfl) h21) (by kernel_rfl) (by kernel_rfl) rfl ?_
    refine QL.rn 1 [] [(5, .string t20)] ?_
    refine QL.done ?_
    exact WP.sub [1, 2, 3, 5] (by kernel_rfl) (WP.pick [0] (by kernel_rfl) (by kernel_rfl) (K2 t20 hM))
   ·replace hM := cond_f hM c11
    refine WP.skip ?_
    exact WP.sub [1, 2, 3, 5] (by kernel_rfl) (WP.pick [0] (by kernel_rfl) (by kernel_rfl) (K2 t9 hM))
def octets_part.f (a0 : ByteArray) (a1 : Int) (a2 : Int) : Option (ByteArray × Un0) :=
 bif ((decide (a1 < 0)) || (decide (a2 < 0))) then
  some ((⟨#[]⟩ : ByteArray), some (a1, 1))
 else
  bif ((decide (a1 > (a0.size : Int))) || (decide (a2 > (i64 ((a0.size : Int) - a1))))) then
   some ((⟨#[]⟩ : ByteArray), some (a1, 10))
  else
   (sliceS a0 a1 (i64 (a1 + a2))).bind fun t3 =>
   some (t3, none)
theorem octets_part_calls (a0 : ByteArray) (a1 : Int) (a2 : Int) (r : ByteArray × Un0) (h : octets_part.f a0 a1 a2 = some r) : Pure Tryz.prog Glob 307 #[.string a0, .int .i64 a1, .int .i64 a2] (.tuple #[.string r.1, Un0.v r.2]) := by
 intro w Z hS
 refine callsS (args := [.string a0, .int .i64 a1, .int .i64 a2]) (L := [(0, .string a0), (1, .int .i64 a1), (2, .int .i64 a2)]) (N := 42) Tryz.func307 hS ?_
 have hM := h
 clear h hS
 unfold octets_part.f at hM
 refine WP.seq ?_
 refine WP.rn [] [(6, .string (⟨#[]⟩ : ByteArray)), (7, .nilIface)] ?_
 refine WP.seq (WP.block (WP.seq (WP.region (WL.rn 3 [] [(11, .bool (decide (a1 < 0)))] ?_))))
 refine WL.bo 11 (decide (a1 < 0)) 3 [] [] (fun b' => [(14, .bool (b' || (decide (a2 < 0))))]) ?_
 refine WL.rn 1 [] [(8, .bool ((decide (a1 < 0)) || (decide (a2 < 0))))] ?_
 refine WP.done ?_
 refine WP.cond ((decide (a1 < 0)) || (decide (a2 < 0))) rfl rfl (fun c1 => ?_) (fun c1 => ?_)
 ·replace hM := cond_t hM c1
  refine WP.seq ?_
  refine WP.rn [] [(6, .string (⟨#[]⟩ : ByteArray)), (7, .iface 532 (.agg #[.int .i64 a1, .iface 29 (.int .i64 1)]))] ?_
  obtain rfl := Option.some.inj hM
  exact WP.retQ [] []
 ·replace hM := cond_f hM c1
  refine WP.seq (WP.region (WL.rn 5 [] [(24, .bool (decide (a1 > (a0.size : Int))))] ?_))
  refine WL.bo 24 (decide (a1 > (a0.size : Int))) 7 [] [] (fun b' => [(31, .bool (b' || (decide (a2 > (i64 ((a0.size : Int) - a1))))))]) ?_
  refine WL.rn 1 [] [(19, .bool ((decide (a1 > (a0.size : Int))) || (decide (a2 > (i64 ((a0.size : Int) - a1))))))] ?_
  refine WP.done ?_
  refine WP.cond ((decide (a1 > (a0.size : Int))) || (decide (a2 > (i64 ((a0.size : Int) - a1))))) rfl rfl (fun c2 => ?_) (fun c2 => ?_)
  ·replace hM := cond_t hM c2
   refine WP.seq ?_
   refine WP.rn [] [(6, .string (⟨#[]⟩ : ByteArray)), (7, .iface 532 (.agg #[.int .i64 a1, .iface 29 (.int .i64 10)]))] ?_
   obtain rfl := Option.some.inj hM
   exact WP.retQ [] []
  ·replace hM := cond_f hM c2
   refine WP.skip (WP.leave (WP.seq (WP.region (WL.rn 5 [] [(36, .string a0), (37, .int .i64 a1), (40, .int .i64 (i64 (a1 + a2)))] ?_))))
   obtain ⟨t3, h4, hM⟩ := bind_some hM
   refine WL.val (fun _ => run_sliceS (s := a0) (kl := .i64) (kh := .i64) (l := a1) (h := i64 (a1 + a2)) (by kernel_rfl) (by kernel_rfl) (by kernel_rfl) (by kernel_rfl) h4) (by kernel_rfl) (by kernel_rfl) rfl ?_
   refine WL.rn 2 [] [(6, .string t3), (7, .nilIface)] ?_
   refine WP.done ?_
   obtain rfl := Option.some.inj hM
   exact WP.retQ [] []
def octets_at_Unwrap.f (a0 : Int) (a0_1 : Int) : Option (Int) :=
 some a0_1
theorem octets_at_Unwrap_calls (a0 : Int) (a0_1 : Int) (r : Int) (h : octets_at_Unwrap.f a0 a0_1 = some r) : Pure Tryz.prog Glob 426 #[.agg #[.int .i64 a0, .iface 29 (.int .i64 a0_1)]] (.iface 29 (.int .i64 r)) := by
 intro w Z hS
 refine callsS (args := [.agg #[.int .i64 a0, .iface 29 (.int .i64 a0_1)]]) (L := [(0, .agg #[.int .i64 a0, .iface 29 (.int .i64 a0_1)])]) (N := 5) Tryz.func426 hS ?_
 have hM := h
 clear h hS
 unfold octets_at_Unwrap.f at hM
 refine WP.seq ?_
 refine WP.rh [] (fun b1 => [(1, .pointer (some ⟨b1, 0, none⟩)), (2, .nilIface)]) (fun b1 => []) (fun b1 => [(b1, .cells #[.int .i64 a0, .iface 29 (.int .i64 a0_1)] 532 (0, 0))]) (fun b1 => ?_)
 refine WP.seq (WP.rn [0] [(2, .iface 29 (.int .i64 a0_1))] ?_)
 refine WP.kp [false] ?_
 obtain rfl := Option.some.inj hM
 exact WP.retQ [] []
def errors_as.f (a0 : Int) (a0_1 : Int) (a1 : Int) : Option (Bool × Int) :=
 (octets_at_Unwrap.f a0 a0_1).bind fun r3 =>
 some (true, r3)
theorem errors_as_calls (b_0 : Nat) (b_1 : Nat) (a0 : Int) (a0_1 : Int) (a1 : Int) (r : Bool × Int) (h : errors_as.f a0 a0_1 a1 = some r) : Does Tryz.prog 161 #[.iface 532 (.agg #[.int .i64 a0, .iface 29 (.int .i64 a0_1)]), .iface 311 (.pointer (some ⟨b_0, 0, none⟩)), .agg #[.pointer (some ⟨2, 311, none⟩), .pointer (some ⟨b_1, 0, none⟩), .int .u64 150], .iface 436 (.agg #[.pointer (some ⟨2, 29, none⟩)])] [(b_0, .cells #[.int .i64 a1] 29 (0, 0)), (b_1, .cells #[.pointer (some ⟨b_0, 0, none⟩)] 311 (0, 0))] Glob (fun _ : Unit => .bool r.1) (fun _ => [(b_0, .cells #[.int .i64 r.2] 29 (0, 0)), (b_1, .cells #[.pointer (some ⟨b_0, 0, none⟩)] 311 (0, 0))]) (fun _ => []) (fun _ => Glob) := by
 intro w Z hS
 refine callsS (args := [.iface 532 (.agg #[.int .i64 a0, .iface 29 (.int .i64 a0_1)]), .iface 311 (.pointer (some ⟨b_0, 0, none⟩)), .agg #[.pointer (some ⟨2, 311, none⟩), .pointer (some ⟨b_1, 0, none⟩), .int .u64 150], .iface 436 (.agg #[.pointer (some ⟨2, 29, none⟩)])]) (L := [(0, .iface 532 (.agg #[.int .i64 a0, .iface 29 (.int .i64 a0_1)])), (1, .iface 311 (.pointer (some ⟨b_0, 0, none⟩))), (2, .agg #[.pointer (some ⟨2, 311, none⟩), .pointer (some ⟨b_1, 0, none⟩), .int .u64 150]), (3, .iface 436 (.agg #[.pointer (some ⟨2, 29, none⟩)]))]) (N := 62) Tryz.func161 hS ?_
 have hM := h
 clear h hS
 unfold errors_as.f at hM
 refine WP.seq ?_
 refine WP.rh [] (fun b1 => [(6, .pointer (some ⟨b1, 0, none⟩)), (8, .bool false)]) (fun b1 => []) (fun b1 => [(b1, .cells #[.pointer (some ⟨2, 311, none⟩), .pointer (some ⟨b_1, 0, none⟩), .int .u64 150] 322 (0, 0))]) (fun b1 => ?_)
 refine WP.block (WP.unroll 40 ?_)
 refine WP.block (WP.seq (WP.seq ?_))
 refine WP.rn [] [(16, .iface 532 (.agg #[.int .i64 a0, .iface 29 (.int .i64 a0_1)])), (17, .iface 436 (.agg #[.pointer (some ⟨2, 532, none⟩)])), (18, .iface 436 (.agg #[.pointer (some ⟨2, 29, none⟩)])), (19, .bool false)] ?_
 refine WP.no rfl rfl (WP.skip (WP.seq (WP.seq (WP.region (WL.rn 1 [] [(26, .iface 532 (.agg #[.int .i64 a0, .iface 29 (.int .i64 a0_1)]))] ?_)))))
 refine WL.val (fun _ => run_assertLacks (t := 532) (v := .agg #[.int .i64 a0, .iface 29 (.int .i64 a0_1)]) (z := .nilIface) (by kernel_rfl) (by kernel_rfl) (by kernel_rfl)) (by kernel_rfl) (by kernel_rfl) rfl ?_
 refine WL.rn 5 [] [(9, .nilIface), (10, .bool false), (25, .tuple #[.nilIface, .bool false]), (28, .nilIface), (29, .bool false)] ?_
 refine WP.done (WP.seq (WP.rn [] [(30, .bool false), (31, .bool false), (32, .tuple #[]), (33, .tuple #[]), (34, .tuple #[]), (35, .bool false)] ?_))
 refine WP.no rfl rfl (WP.skip (WP.seq (WP.rn [] [(36, .iface 532 (.agg #[.int .i64 a0, .iface 29 (.int .i64 a0_1)]))] ?_)))
 refine WP.block (WP.seq (WP.region ?_))
 refine WL.val (fun _ => run_assertHas (t := 532) (v := .agg #[.int .i64 a0, .iface 29 (.int .i64 a0_1)]) (by kernel_rfl) (by kernel_rfl)) (by kernel_rfl) (by kernel_rfl) rfl ?_
 refine WL.rn 2 [] [(38, .bool true), (39, .iface 532 (.agg #[.int .i64 a0, .iface 29 (.int .i64 a0_1)]))] ?_
 refine WP.done (WP.yes rfl rfl (WP.seq (WP.rn [] [(11, .iface 532 (.agg #[.int .i64 a0, .iface 29 (.int .i64 a0_1)]))] ?_)))
 refine WP.seq (WP.region (WL.rn 1 [] [(40, .iface 532 (.agg #[.int .i64 a0, .iface 29 (.int .i64 a0_1)]))] ?_))
 obtain ⟨r3, h4, hM⟩ := bind_some hM
 refine WL.callP [] [] (octets_at_Unwrap_calls a0 a0_1 _ h4) (fun _ h => h) (by kernel_rfl) (by kernel_rfl) rfl ?_
 refine WL.rn 1 [] [(0, .iface 29 (.int .i64 r3))] ?_
 refine WP.done (WP.seq (WP.rn [] [(42, .iface 29 (.int .i64 r3)), (43, .bool false)] ?_))
 refine WP.no rfl rfl (WP.skip (WP.leave (WP.leave (WP.round ?_))))
 refine WP.block (WP.seq (WP.seq ?_))
 refine WP.rn [] [(16, .iface 29 (.int .i64 r3)), (17, .iface 436 (.agg #[.pointer (some ⟨2, 29, none⟩)])), (18, .iface 436 (.agg #[.pointer (some ⟨2, 29, none⟩)])), (19, .bool true)] ?_
 refine WP.yes rfl rfl (WP.seq ?_)
 refine WP.rh [2, 2, 2, 1, 3, 0] (fun b5 => [(20, .agg #[.pointer (some ⟨2, 311, none⟩), .pointer (some ⟨b_1, 0, none⟩), .int .u64 150]), (21, .agg #[.pointer (some ⟨2, 29, none⟩), .pointer (some ⟨b_0, 0, none⟩), .int .u64 386]), (22, .iface 29 (.int .i64 r3)), (23, .agg #[.pointer (some ⟨2, 29, none⟩), .pointer (some ⟨b5, 0, none⟩), .int .u64 130])]) (fun b5 => [(0, 0, [.int .i64 r3])]) (fun b5 => [(b5, .cells #[.int .i64 r3] 29 (0, 0))]) (fun b5 => ?_)
 refine WP.seq (WP.rn [] [(8, .bool true)] ?_)
 obtain rfl := Option.some.inj hM
 exact WP.ret [] [] (.bool true) (by kernel_rfl) (fun w' hw => ⟨(), rfl, hw.pick [0, 1] (by kernel_rfl)⟩)
def errors_As.f (a0 : Int) (a0_1 : Int) (a1 : Int) : Option (Bool × Int) :=
 (errors_as.f a0 a0_1 a1).bind fun (r2, r3) =>
 some (r2, r3)
theorem errors_As_calls (b_0 : Nat) (a0 : Int) (a0_1 : Int) (a1 : Int) (r : Bool × Int) (h : errors_As.f a0 a0_1 a1 = some r) : Does Tryz.prog 74 #[.iface 532 (.agg #[.int .i64 a0, .iface 29 (.int .i64 a0_1)]), .iface 311 (.pointer (some ⟨b_0, 0, none⟩))] [(b_0, .cells #[.int .i64 a1] 29 (0, 0))] Glob (fun _ : Unit => .bool r.1) (fun _ => [(b_0, .cells #[.int .i64 r.2] 29 (0, 0))]) (fun _ => []) (fun _ => Glob) := by
 intro w Z hS
 refine callsS (args := [.iface 532 (.agg #[.int .i64 a0, .iface 29 (.int .i64 a0_1)]), .iface 311 (.pointer (some ⟨b_0, 0, none⟩))]) (L := [(0, .iface 532 (.agg #[.int .i64 a0, .iface 29 (.int .i64 a0_1)])), (1, .iface 311 (.pointer (some ⟨b_0, 0, none⟩)))]) (N := 42) Tryz.func74 hS ?_
 have hM := h
 clear h hS
 unfold errors_As.f at hM
 refine WP.seq (WP.rn [] [(4, .bool false)] ?_)
 refine WP.seq (WP.seq (WP.rn [] [(9, .bool false)] ?_))
 refine WP.no rfl rfl (WP.skip (WP.seq (WP.seq (WP.rn [] [(11, .bool false)] ?_))))
 refine WP.no rfl rfl (WP.skip (WP.seq ?_))
 refine WP.rh [2, 2, 2] (fun b1 => [(5, .pointer (some ⟨(b1 + 1), 0, none⟩))]) (fun b1 => []) (fun b1 => [(b1, .cells #[.pointer (some ⟨b_0, 0, none⟩)] 311 (0, 0)), ((b1 + 1), .cells #[.pointer (some ⟨2, 311, none⟩), .pointer (some ⟨b1, 0, none⟩), .int .u64 150] 322 (0, 0))]) (fun b1 => ?_)
 refine WP.seq ?_
 refine WP.rn [2, 2, 2] [(6, .iface 436 (.agg #[.pointer (some ⟨2, 311, none⟩)]))] ?_
 refine WP.seq (WP.seq (WP.rn [2, 2, 2, 1] [(23, .bool false)] ?_))
 refine WP.no rfl rfl (WP.skip (WP.seq ?_))
 refine WP.rn [] [(7, .iface 436 (.agg #[.pointer (some ⟨2, 29, none⟩)]))] ?_
 refine WP.seq (WP.seq (WP.region ?_))
 refine WL.rn 5 [] [(30, .bool true), (31, .iface 436 (.agg #[.pointer (some ⟨2, 29, none⟩)]))] ?_
 refine WL.loadGlob (v := .iface 436 (.agg #[.pointer (some ⟨2, 176, none⟩)])) (by simp [Glob]) (fun _ => by kernel_rfl) (by kernel_rfl) rfl ?_
 refine WL.rn 3 [] [(35, .bool false)] ?_
 refine WP.done (WP.no rfl rfl (WP.skip (WP.seq (WP.region ?_))))
 refine WL.rn 4 [2, 2, 2] [(37, .iface 532 (.agg #[.int .i64 a0, .iface 29 (.int .i64 a0_1)])), (38, .iface 311 (.pointer (some ⟨b_0, 0, none⟩))), (39, .agg #[.pointer (some ⟨2, 311, none⟩), .pointer (some ⟨b1, 0, none⟩), .int .u64 150]), (40, .iface 436 (.agg #[.pointer (some ⟨2, 29, none⟩)]))] ?_
 obtain ⟨⟨r2, r3⟩, h4, hM⟩ := bind_some hM
 dsimp only at hM
 refine WL.callE (X := Unit) [] [] [true, true, false] (fun _ => _) (errors_as_calls b_0 b1 a0 a0_1 a1 _ h4) rfl rfl (fun _ h => h) (by kernel_rfl) (by kernel_rfl) (fun _ => rfl) (fun _ => ?_)
 refine WL.rn 1 [] [(4, .bool r2)] ?_
 refine WP.done (WP.kp [true, false, false] ?_)
 obtain rfl := Option.some.inj hM
 exact WP.ret [] [] (.bool r2) (by kernel_rfl) (fun w' hw => ⟨(), rfl, hw.pick [0] (by kernel_rfl)⟩)
def octets_number.f (a0 : Int) (a0_1 : Int) : Option (Int) :=
 (errors_As.f a0 a0_1 0).bind fun (r2, r3) =>
 bif r2 then
  some r3
 else
  some 0
theorem octets_number_calls (a0 : Int) (a0_1 : Int) (r : Int) (h : octets_number.f a0 a0_1 = some r) : Pure Tryz.prog Glob 308 #[.iface 532 (.agg #[.int .i64 a0, .iface 29 (.int .i64 a0_1)])] (.int .i64 r) := by
 intro w Z hS
 refine callsS (args := [.iface 532 (.agg #[.int .i64 a0, .iface 29 (.int .i64 a0_1)])]) (L := [(0, .iface 532 (.agg #[.int .i64 a0, .iface 29 (.int .i64 a0_1)]))]) (N := 12) Tryz.func308 hS ?_
 have hM := h
 clear h hS
 unfold octets_number.f at hM
 refine WP.seq (WP.rn [] [(2, .int .i64 0)] ?_)
 refine WP.seq ?_
 refine WP.rh [] (fun b1 => [(3, .pointer (some ⟨b1, 0, none⟩))]) (fun b1 => []) (fun b1 => [(b1, .cells #[.int .i64 0] 29 (0, 0))]) (fun b1 => ?_)
 refine WP.seq (WP.seq (WP.region ?_))
 refine WL.rn 5 [] [(6, .bool true), (7, .iface 532 (.agg #[.int .i64 a0, .iface 29 (.int .i64 a0_1)])), (8, .iface 311 (.pointer (some ⟨b1, 0, none⟩)))] ?_
 obtain ⟨⟨r2, r3⟩, h4, hM⟩ := bind_some hM
 dsimp only at hM
 refine WL.callE (X := Unit) [] [] [true] (fun _ => _) (errors_As_calls b1 a0 a0_1 0 _ h4) rfl rfl (fun _ h => h) (by kernel_rfl) (by kernel_rfl) (fun _ => rfl) (fun _ => ?_)
 refine WL.rn 1 [] [(10, .bool r2)] ?_
 refine WP.done ?_
 refine WP.cond r2 rfl rfl (fun c5 => ?_) (fun c5 => ?_)
 ·replace hM := cond_t hM c5
  refine WP.seq (WP.rn [0] [(2, .int .i64 r3)] ?_)
  refine WP.kp [false] ?_
  obtain rfl := Option.some.inj hM
  exact WP.retQ [] []
 ·replace hM := cond_f hM c5
  refine WP.skip (WP.seq (WP.rn [] [(2, .int .i64 0)] ?_))
  refine WP.kp [false] ?_
  obtain rfl := Option.some.inj hM
  exact WP.retQ [] []
def octets_Get.l1 (a2 : Int) (r2 : ByteArray) : Nat → Int → Int → Option (Int × Int)
 | 0, _, _ => none
 | n + 1, x9, x10 =>
  bif decide (x10 < a2) then
   (idxS r2 x10).bind fun t12 =>
   octets_Get.l1 a2 r2 n (bOr .u64 (u64 (x9 * 256)) (u64 t12)) (i64 (x10 + 1))
  else
   some (x9, 0)
def octets_Get.f (k : Nat) (a0 : ByteArray) (a1 : Int) (a2 : Int) : Option (Int × Int) :=
 bif ((decide (a2 < 1)) || (decide (a2 > 8))) then
  some (0, 1)
 else
  (octets_part.f a0 a1 a2).bind fun (r2, r3) =>
  match r3 with
  | none =>
   octets_Get.l1 a2 r2 k 0 0
  | some (q5, q6) =>
   (octets_number.f q5 q6).bind fun r7 =>
   some (0, r7)
theorem octets_Get_calls (k : Nat) (a0 : ByteArray) (a1 : Int) (a2 : Int) (r : Int × Int) (h : octets_Get.f k a0 a1 a2 = some r) : Pure Tryz.prog Glob 244 #[.string a0, .int .i64 a1, .int .i64 a2] (.tuple #[.int .u64 r.1, .int .i64 r.2]) := by
 intro w Z hS
 refine callsS (args := [.string a0, .int .i64 a1, .int .i64 a2]) (L := [(0, .string a0), (1, .int .i64 a1), (2, .int .i64 a2)]) (N := 42) Tryz.func244 hS ?_
 have hM := h
 clear h hS
 unfold octets_Get.f at hM
 refine WP.seq (WP.rn [] [(6, .int .u64 0), (7, .int .i64 0)] ?_)
 refine WP.seq (WP.seq (WP.region (WL.rn 3 [] [(14, .bool (decide (a2 < 1)))] ?_)))
 refine WL.bo 14 (decide (a2 < 1)) 3 [] [] (fun b' => [(17, .bool (b' || (decide (a2 > 8))))]) ?_
 refine WP.done ?_
 refine WP.cond ((decide (a2 < 1)) || (decide (a2 > 8))) rfl rfl (fun c1 => ?_) (fun c1 => ?_)
 ·replace hM := cond_t hM c1
  refine WP.seq (WP.rn [] [(6, .int .u64 0), (7, .int .i64 1)] ?_)
  obtain rfl := Option.some.inj hM
  exact WP.retQ [] []
 ·replace hM := cond_f hM c1
  refine WP.skip (WP.seq (WP.region (WL.rn 3 [] [(19, .string a0), (20, .int .i64 a1), (21, .int .i64 a2)] ?_)))
  obtain ⟨⟨r2, r3⟩, h4, hM⟩ := bind_some hM
  dsimp only at hM
  refine WL.callP [] [] (octets_part_calls a0 a1 a2 _ h4) (fun _ h => h) (by kernel_rfl) (by kernel_rfl) rfl ?_
  refine WL.rn 5 [] [(8, .string r2), (9, Un0.v r3)] ?_
  refine WP.done (WP.seq (WP.seq (WP.region (WL.rn 1 [] [(25, Un0.v r3)] ?_))))
  rcases r3 with _ | ⟨q5, q6⟩
  ·dsimp only at hM
   refine WL.rn 1 [] [(26, .bool false)] ?_
   refine WP.done (WP.no rfl rfl (WP.skip (WP.seq (WP.rn [] [(10, .int .u64 0)] ?_))))
   refine WP.seq (WP.seq (WP.rn [] [(29, .int .i64 a2), (30, .int .i64 0)] ?_))
   refine WP.block (WP.sub [6, 7, 8, 10, 29, 30] (L' := [(6, .int .u64 0), (7, .int .i64 0), (8, .string r2), (10, .int .u64 0), (29, .int .i64 a2), (30, .int .i64 0)]) (by kernel_rfl) ?_)
   refine WP.loop (σ := Int × Int) (fun n st => octets_Get.l1 a2 r2 n st.1 st.2) r (fun st => [(6, .int .u64 0), (7, .int .i64 0), (8, .string r2), (10, .int .u64 st.1), (29, .int .i64 a2), (30, .int .i64 st.2)]) (fun st => Sat w Z [] [] Glob) (st := (0, 0)) (fun n st hM => ?_) hM
   rcases n with _ | n
   ·exact nomatch (show (none : Option _) = some r from hM)
   obtain ⟨x9, x10⟩ := st
   replace hM : octets_Get.l1 a2 r2 (n + 1) x9 x10 = some r := hM
   rw [octets_Get.l1] at hM
   try dsimp only
   refine WP.seq (WP.rn [] [(31, .bool (decide (x10 < a2)))] ?_)
   refine WP.seq ?_
   refine WP.cond (decide (x10 < a2)) rfl rfl (fun c11 => ?_) (fun c11 => ?_)
   ·replace hM := cond_t hM c11
    refine WP.skip (WP.seq (WP.block (WP.seq (WP.rn [] [(11, .int .i64 x10), (32, .int .i64 x10)] ?_))))
    refine WP.region (WL.rn 4 [] [(33, .int .u64 x9), (34, .int .u64 (u64 (x9 * 256))), (35, .string r2), (36, .int .i64 x10)] ?_)
    obtain ⟨t12, h13, hM⟩ := bind_some hM
    refine WL.val (fun _ => run_idxS (s := r2) (k := .i64) (i := x10) (by kernel_rfl) (by kernel_rfl) (by kernel_rfl) h13) (by kernel_rfl) (by kernel_rfl) rfl ?_
    refine WL.rn 3 [] [(10, .int .u64 (bOr .u64 (u64 (x9 * 256)) (u64 t12))), (38, .int .u64 (u64 t12)), (39, .int .u64 (bOr .u64 (u64 (x9 * 256)) (u64 t12)))] ?_
    refine WP.done (WP.leave (WP.rn [] [(30, .int .i64 (i64 (x10 + 1))), (40, .int .i64 (i64 (x10 + 1)))] ?_))
    exact WP.again' [6, 7, 8, 10, 29, 30] (bOr .u64 (u64 (x9 * 256)) (u64 t12), i64 (x10 + 1)) hM (by kernel_rfl) (fun _ h => h.pick [] (by kernel_rfl))
   ·replace hM := cond_f hM c11
    refine WP.exit rfl (WP.seq (WP.rn [] [(6, .int .u64 x9), (7, .int .i64 0)] ?_))
    obtain rfl := Option.some.inj hM
    exact WP.retQ [] []
  ·dsimp only at hM
   refine WL.rn 1 [] [(26, .bool true)] ?_
   refine WP.done (WP.yes rfl rfl (WP.seq (WP.region (WL.rn 1 [] [(27, .iface 532 (.agg #[.int .i64 q5, .iface 29 (.int .i64 q6)]))] ?_))))
   obtain ⟨r7, h8, hM⟩ := bind_some hM
   refine WL.callP [] [] (octets_number_calls q5 q6 _ h8) (fun _ h => h) (by kernel_rfl) (by kernel_rfl) rfl ?_
   refine WL.rn 2 [] [(6, .int .u64 0), (7, .int .i64 r7)] ?_
   refine WP.done ?_
   obtain rfl := Option.some.inj hM
   exact WP.retQ [] []
def ether_reader_get.f (k : Nat) (a0 : ether_reader) (a1 : Int) (a2 : ByteArray) : Option (Int × Un1 × ether_reader) :=
 (octets_Get.f k a0.s a0.at_ a1).bind fun (r1, r2) =>
 bif (r2 != 0) then
  some (0, some (a2, 40), a0)
 else
  some (r1, none, (ether_reader.mk a0.s (i64 (a0.at_ + a1))))
theorem ether_reader_get_calls (k : Nat) (b_0 : Nat) (a0 : ether_reader) (a1 : Int) (a2 : ByteArray) (r : Int × Un1 × ether_reader) (h : ether_reader_get.f k a0 a1 a2 = some r) : Does Tryz.prog 149 #[.pointer (some ⟨b_0, 0, none⟩), .int .i64 a1, .string a2] [(b_0, ether_reader.o a0)] Glob (fun _ : Unit => .tuple #[.int .u64 r.1, Un1.v r.2.1]) (fun _ => [(b_0, ether_reader.o r.2.2)]) (fun _ => []) (fun _ => Glob) := by
 intro w Z hS
 refine callsS (args := [.pointer (some ⟨b_0, 0, none⟩), .int .i64 a1, .string a2]) (L := [(0, .pointer (some ⟨b_0, 0, none⟩)), (1, .int .i64 a1), (2, .string a2)]) (N := 38) Tryz.func149 hS ?_
 have hM := h
 clear h hS
 unfold ether_reader_get.f at hM
 refine WP.seq (WP.rn [] [(6, .int .u64 0), (7, .nilIface)] ?_)
 refine WP.seq (WP.quiet (by kernel_rfl) (by kernel_rfl) ?_)
 refine QL.rn 9 [0, 0] [(14, .string a0.s), (18, .int .i64 a0.at_), (19, .int .i64 a1)] ?_
 obtain ⟨⟨r1, r2⟩, h3, hM⟩ := bind_some hM
 dsimp only at hM
 refine QL.callP [] [] (octets_Get_calls k a0.s a0.at_ a1 _ h3) (fun _ h => h) (by kernel_rfl) (by kernel_rfl) rfl ?_
 refine QL.rn 5 [] [(8, .int .u64 r1), (9, .int .i64 r2)] ?_
 refine QL.done ?_
 refine WP.seq (WP.seq (WP.rn [] [(24, .bool (r2 != 0))] ?_))
 refine WP.cond (r2 != 0) rfl rfl (fun c4 => ?_) (fun c4 => ?_)
 ·replace hM := cond_t hM c4
  refine WP.seq (WP.rn [] [(6, .int .u64 0), (7, .iface 434 (.agg #[.string a2, .iface 29 (.int .i64 40)]))] ?_)
  obtain rfl := Option.some.inj hM
  exact WP.ret [] [] (.tuple #[.int .u64 0, .iface 434 (.agg #[.string a2, .iface 29 (.int .i64 40)])]) (by kernel_rfl) (fun w' hw => ⟨(), rfl, hw.pick [0] (by kernel_rfl)⟩)
 ·replace hM := cond_f hM c4
  refine WP.skip (WP.seq ?_)
  refine WP.rh [0, 0] (fun _ => []) (fun _ => [(0, 1, [.int .i64 (i64 (a0.at_ + a1))])]) (fun _ => []) (fun _ => ?_)
  refine WP.seq (WP.rn [] [(6, .int .u64 r1), (7, .nilIface)] ?_)
  obtain rfl := Option.some.inj hM
  exact WP.ret [] [] (.tuple #[.int .u64 r1, .nilIface]) (by kernel_rfl) (fun w' hw => ⟨(), rfl, hw.pick [0] (by kernel_rfl)⟩)
def ether_reader_tagged.f (k : Nat) (a0 : ether_reader) (a1 : api_Frame) : Option (Int × Un1 × ether_reader × api_Frame) :=
 (ether_reader_get.f k a0 2 (⟨#[116, 97, 103]⟩ : ByteArray)).bind fun (r1, r2, r3) =>
 match r2 with
 | none =>
  (ether_reader_get.f k r3 2 (⟨#[116, 121, 112, 101]⟩ : ByteArray)).bind fun (r7, r8, r9) =>
  match r8 with
  | none =>
   some (i64 r7, none, r9, (api_Frame.mk a1.Dst a1.Src (api_Tag.mk true (Int.fdiv (i64 r1) 8192) ((bAnd .i64 (i64 r1) 4096) != 0) (Int.tmod (i64 r1) 4096)) a1.Type_ a1.Body))
  | some (q11, q12) =>
   some (i64 r7, some (q11, q12), r9, (api_Frame.mk a1.Dst a1.Src (api_Tag.mk true (Int.fdiv (i64 r1) 8192) ((bAnd .i64 (i64 r1) 4096) != 0) (Int.tmod (i64 r1) 4096)) a1.Type_ a1.Body))
 | some (q5, q6) =>
  some (0, some (q5, q6), r3, a1)
theorem ether_reader_tagged_calls (k : Nat) (b_0 : Nat) (b_1 : Nat) (a0 : ether_reader) (a1 : api_Frame) (r : Int × Un1 × ether_reader × api_Frame) (h : ether_reader_tagged.f k a0 a1 = some r) : Does Tryz.prog 150 #[.pointer (some ⟨b_0, 0, none⟩), .pointer (some ⟨b_1, 0, none⟩)] [(b_0, ether_reader.o a0), (b_1, api_Frame.o a1)] Glob (fun _ : Unit => .tuple #[.int .i64 r.1, Un1.v r.2.1]) (fun _ => [(b_0, ether_reader.o r.2.2.1), (b_1, api_Frame.o r.2.2.2)]) (fun _ => []) (fun _ => Glob) := by
 intro w Z hS
 refine callsS (args := [.pointer (some ⟨b_0, 0, none⟩), .pointer (some ⟨b_1, 0, none⟩)]) (L := [(0, .pointer (some ⟨b_0, 0, none⟩)), (1, .pointer (some ⟨b_1, 0, none⟩))]) (N := 39) Tryz.func150 hS ?_
 have hM := h
 clear h hS
 unfold ether_reader_tagged.f at hM
 refine WP.seq (WP.rn [] [(4, .int .i64 0), (5, .nilIface)] ?_)
 refine WP.seq (WP.region ?_)
 refine WL.rn 1 [] [(11, .pointer (some ⟨b_0, 0, none⟩))] ?_
 obtain ⟨⟨r1, r2, r3⟩, h4, hM⟩ := bind_some hM
 dsimp only at hM
 refine WL.callE (X := Unit) [] [] [true, false] (fun _ => _) (ether_reader_get_calls k b_0 a0 2 (⟨#[116, 97, 103]⟩ : ByteArray) _ h4) rfl rfl (fun _ h => h) (by kernel_rfl) (by kernel_rfl) (fun _ => rfl) (fun _ => ?_)
 refine WL.rn 5 [] [(6, .int .u64 r1), (7, Un1.v r2)] ?_
 refine WP.done (WP.seq (WP.seq (WP.region (WL.rn 1 [] [(15, Un1.v r2)] ?_))))
 rcases r2 with _ | ⟨q5, q6⟩
 ·dsimp only at hM
  refine WL.rn 1 [] [(16, .bool false)] ?_
  refine WP.done (WP.no rfl rfl (WP.skip (WP.seq (WP.rn [] [(8, .int .i64 (i64 r1))] ?_))))
  refine WP.seq ?_
  refine WP.rh [1, 1, 1, 1] (fun _ => []) (fun _ => [(1, 2, [.bool true, .int .i64 (Int.fdiv (i64 r1) 8192), .bool ((bAnd .i64 (i64 r1) 4096) != 0), .int .i64 (Int.tmod (i64 r1) 4096)])]) (fun _ => []) (fun _ => ?_)
  refine WP.seq (WP.region ?_)
  refine WL.rn 1 [] [(32, .pointer (some ⟨b_0, 0, none⟩))] ?_
  obtain ⟨⟨r7, r8, r9⟩, h10, hM⟩ := bind_some hM
  dsimp only at hM
  refine WL.callE (X := Unit) [] [] [true, false] (fun _ => _) (ether_reader_get_calls k b_0 r3 2 (⟨#[116, 121, 112, 101]⟩ : ByteArray) _ h10) rfl rfl (fun _ h => h) (by kernel_rfl) (by kernel_rfl) (fun _ => rfl) (fun _ => ?_)
  refine WL.rn 5 [] [(7, Un1.v r8), (9, .int .u64 r7)] ?_
  refine WP.done (WP.seq (WP.rn [] [(4, .int .i64 (i64 r7)), (5, Un1.v r8)] ?_))
  rcases r8 with _ | ⟨q11, q12⟩
  ·dsimp only at hM
   obtain rfl := Option.some.inj hM
   exact WP.ret [] [] (.tuple #[.int .i64 (i64 r7), .nilIface]) (by kernel_rfl) (fun w' hw => ⟨(), rfl, hw.pick [0, 1] (by kernel_rfl)⟩)
  ·dsimp only at hM
   obtain rfl := Option.some.inj hM
   exact WP.ret [] [] (.tuple #[.int .i64 (i64 r7), .iface 434 (.agg #[.string q11, .iface 29 (.int .i64 q12)])]) (by kernel_rfl) (fun w' hw => ⟨(), rfl, hw.pick [0, 1] (by kernel_rfl)⟩)
 ·dsimp only at hM
  refine WL.rn 1 [] [(16, .bool true)] ?_
  refine WP.done (WP.yes rfl rfl (WP.seq (WP.rn [] [(4, .int .i64 0), (5, .iface 434 (.agg #[.string q5, .iface 29 (.int .i64 q6)]))] ?_)))
  obtain rfl := Option.some.inj hM
  exact WP.ret [] [] (.tuple #[.int .i64 0, .iface 434 (.agg #[.string q5, .iface 29 (.int .i64 q6)])]) (by kernel_rfl) (fun w' hw => ⟨(), rfl, hw.pick [0, 1] (by kernel_rfl)⟩)
def ether_reader_body.k1 (a1 : api_Frame) (a2 : Int) (t1 : ByteArray) (x4 : Bool) : Option (Un1 × api_Frame) :=
 bif x4 then
  some (some ((⟨#[116, 121, 112, 101]⟩ : ByteArray), 41), a1)
 else
  bif decide (a2 > 1500) then
   some (none, (api_Frame.mk a1.Dst a1.Src a1.Tag a2 t1))
  else
   bif decide (a2 > (t1.size : Int)) then
    some (some ((⟨#[98, 111, 100, 121]⟩ : ByteArray), 40), a1)
   else
    (sliceS t1 0 a2).bind fun t8 =>
    some (none, (api_Frame.mk a1.Dst a1.Src a1.Tag a1.Type_ t8))
def ether_reader_body.f (a0 : ether_reader) (a1 : api_Frame) (a2 : Int) : Option (Un1 × api_Frame) :=
 (sliceS a0.s a0.at_ (a0.s.size : Int)).bind fun t1 =>
 bif (a2 == 33024) then
  ether_reader_body.k1 a1 a2 t1 true
 else
  ether_reader_body.k1 a1 a2 t1 ((decide (a2 > 1500)) && (decide (a2 < 1536)))
theorem ether_reader_body_calls (b_0 : Nat) (b_1 : Nat) (a0 : ether_reader) (a1 : api_Frame) (a2 : Int) (r : Un1 × api_Frame) (h : ether_reader_body.f a0 a1 a2 = some r) : Does Tryz.prog 151 #[.pointer (some ⟨b_0, 0, none⟩), .pointer (some ⟨b_1, 0, none⟩), .int .i64 a2] [(b_0, ether_reader.o a0), (b_1, api_Frame.o a1)] Glob (fun _ : Unit => Un1.v r.1) (fun _ => [(b_0, ether_reader.o a0), (b_1, api_Frame.o r.2)]) (fun _ => []) (fun _ => Glob) := by
 intro w Z hS
 refine callsS (args := [.pointer (some ⟨b_0, 0, none⟩), .pointer (some ⟨b_1, 0, none⟩), .int .i64 a2]) (L := [(0, .pointer (some ⟨b_0, 0, none⟩)), (1, .pointer (some ⟨b_1, 0, none⟩)), (2, .int .i64 a2)]) (N := 55) Tryz.func151 hS ?_
 have hM := h
 clear h hS
 unfold ether_reader_body.f at hM
 refine WP.seq (WP.rn [] [(6, .nilIface)] ?_)
 refine WP.seq (WP.quiet (by kernel_rfl) (by kernel_rfl) ?_)
 refine QL.rn 8 [0, 0] [(11, .string a0.s), (15, .int .i64 a0.at_)] ?_
 obtain ⟨t1, h2, hM⟩ := bind_some hM
 refine QL.val (fun _ => run_sliceS_lo (s := a0.s) (kl := .i64) (l := a0.at_) (by kernel_rfl) (by kernel_rfl) (by kernel_rfl) h2) (by kernel_rfl) (by kernel_rfl) rfl ?_
 refine QL.rn 1 [] [(7, .string t1)] ?_
 refine QL.done ?_
 refine WP.seq (WP.block (WP.seq (WP.region (WL.rn 3 [] [(20, .bool (a2 == 33024))] ?_))))
 refine WL.join (σ := Bool) 7 (fun st => ether_reader_body.k1 a1 a2 t1 st = some r) (fun st => [(1, .pointer (some ⟨b_1, 0, none⟩)), (2, .int .i64 a2), (6, .nilIface), (7, .string t1), (27, .bool st)]) (fun st => Sat w Z [(b_0, ether_reader.o a0), (b_1, api_Frame.o a1)] [] Glob) (fun st hM => ?_) (fun K1 => ?_)
 ·
  obtain ⟨x4, rfl⟩ : ∃ y, y = st := ⟨st, rfl⟩
  replace hM : ether_reader_body.k1 a1 a2 t1 x4 = some r := hM
  unfold ether_reader_body.k1 at hM
  try dsimp only
  refine WL.rn 1 [] [(17, .bool x4)] ?_
  refine WP.done ?_
  refine WP.cond x4 rfl rfl (fun c5 => ?_) (fun c5 => ?_)
  ·replace hM := cond_t hM c5
   refine WP.seq ?_
   refine WP.rn [] [(6, .iface 434 (.agg #[.string (⟨#[116, 121, 112, 101]⟩ : ByteArray), .iface 29 (.int .i64 41)]))] ?_
   obtain rfl := Option.some.inj hM
   exact WP.ret [] [] (.iface 434 (.agg #[.string (⟨#[116, 121, 112, 101]⟩ : ByteArray), .iface 29 (.int .i64 41)])) (by kernel_rfl) (fun w' hw => ⟨(), rfl, hw.pick [0, 1] (by kernel_rfl)⟩)
  ·replace hM := cond_f hM c5
   refine WP.seq (WP.rn [] [(31, .bool (decide (a2 > 1500)))] ?_)
   refine WP.cond (decide (a2 > 1500)) rfl rfl (fun c6 => ?_) (fun c6 => ?_)
   ·replace hM := cond_t hM c6
    refine WP.seq ?_
    refine WP.rh [1, 1] (fun _ => []) (fun _ => [(1, 6, [.int .i64 a2, .string t1])]) (fun _ => []) (fun _ => ?_)
    refine WP.seq (WP.rn [] [(6, .nilIface)] ?_)
    obtain rfl := Option.some.inj hM
    exact WP.ret [] [] (.nilIface) (by kernel_rfl) (fun w' hw => ⟨(), rfl, hw.pick [0, 1] (by kernel_rfl)⟩)
   ·replace hM := cond_f hM c6
    refine WP.skip (WP.leave (WP.seq (WP.seq (WP.rn [] [(45, .bool (decide (a2 > (t1.size : Int))))] ?_))))
    refine WP.cond (decide (a2 > (t1.size : Int))) rfl rfl (fun c7 => ?_) (fun c7 => ?_)
    ·replace hM := cond_t hM c7
     refine WP.seq ?_
     refine WP.rn [] [(6, .iface 434 (.agg #[.string (⟨#[98, 111, 100, 121]⟩ : ByteArray), .iface 29 (.int .i64 40)]))] ?_
     obtain rfl := Option.some.inj hM
     exact WP.ret [] [] (.iface 434 (.agg #[.string (⟨#[98, 111, 100, 121]⟩ : ByteArray), .iface 29 (.int .i64 40)])) (by kernel_rfl) (fun w' hw => ⟨(), rfl, hw.pick [0, 1] (by kernel_rfl)⟩)
    ·replace hM := cond_f hM c7
     refine WP.skip (WP.seq (WP.region ?_))
     refine WL.rn 3 [] [(49, .pointer (some ⟨b_1, 0, none⟩)), (50, .string t1), (51, .int .i64 a2)] ?_
     obtain ⟨t8, h9, hM⟩ := bind_some hM
     refine WL.val (fun _ => run_sliceS_hi (s := t1) (kh := .i64) (h := a2) (by kernel_rfl) (by kernel_rfl) (by kernel_rfl) h9) (by kernel_rfl) (by kernel_rfl) rfl ?_
     refine WL.rh 3 [1] (fun _ => []) (fun _ => [(1, 7, [.string t8])]) (fun _ => []) (fun _ => ?_)
     refine WP.done (WP.seq (WP.rn [] [(6, .nilIface)] ?_))
     obtain rfl := Option.some.inj hM
     exact WP.ret [] [] (.nilIface) (by kernel_rfl) (fun w' hw => ⟨(), rfl, hw.pick [0, 1] (by kernel_rfl)⟩)
 ·
  refine WL.sp 20 (a2 == 33024) (fun c3 => ?_) (fun c3 => ?_)
  ·replace hM := cond_t hM c3
   refine WL.rn 7 [] [(27, .bool true)] ?_
   exact WL.sub [1, 2, 6, 7, 27] (by kernel_rfl) (WL.pick [0, 1] (by kernel_rfl) (by kernel_rfl) (K1 true hM))
  ·replace hM := cond_f hM c3
   refine WL.rn 3 [] [(23, .bool (decide (a2 > 1500)))] ?_
   refine WL.bo 23 (decide (a2 > 1500)) 3 [] [] (fun b' => [(26, .bool (b' && (decide (a2 < 1536))))]) ?_
   refine WL.rn 1 [] [(27, .bool ((decide (a2 > 1500)) && (decide (a2 < 1536))))] ?_
   exact WL.sub [1, 2, 6, 7, 27] (by kernel_rfl) (WL.pick [0, 1] (by kernel_rfl) (by kernel_rfl) (K1 ((decide (a2 > 1500)) && (decide (a2 < 1536))) hM))
def ether_reader_frame.k1 (x29 : Un1) (x30 : Int) (x31 : ByteArray) (x32 : Int) (x33 : Int) (x34 : Int) (x35 : Bool) (x36 : Int) (x37 : Bool) (x38 : Int) (x39 : Int) (x40 : ByteArray) : Option (api_Frame × Un1 × ether_reader) :=
 match x29 with
 | none =>
  (ether_reader_body.f (ether_reader.mk x31 x32) (api_Frame.mk x33 x34 (api_Tag.mk x35 x36 x37 x38) x39 x40) x30).bind fun (r43, r44) =>
  match r43 with
  | none =>
   some (r44, none, (ether_reader.mk x31 x32))
  | some (q46, q47) =>
   some (r44, some (q46, q47), (ether_reader.mk x31 x32))
 | some (q41, q42) =>
  some ((api_Frame.mk x33 x34 (api_Tag.mk x35 x36 x37 x38) x39 x40), some (q41, q42), (ether_reader.mk x31 x32))
def ether_reader_frame.f (k : Nat) (a0 : ether_reader) : Option (api_Frame × Un1 × ether_reader) :=
 (ether_reader_get.f k a0 6 (⟨#[116, 111]⟩ : ByteArray)).bind fun (r3, r4, r5) =>
 match r4 with
 | none =>
  (ether_reader_get.f k r5 6 (⟨#[102, 114, 111, 109]⟩ : ByteArray)).bind fun (r9, r10, r11) =>
  match r10 with
  | none =>
   (ether_reader_get.f k r11 2 (⟨#[116, 121, 112, 101]⟩ : ByteArray)).bind fun (r15, r16, r17) =>
   match r16 with
   | none =>
    bif ((i64 r15) == 33024) then
     (ether_reader_tagged.f k r17 (api_Frame.mk r3 r9 (api_Tag.mk false 0 false 0) 0 (⟨#[]⟩ : ByteArray))).bind fun (r20, r21, r22, r23) =>
     match r21 with
     | none =>
      ether_reader_frame.k1 none r20 r22.s r22.at_ r23.Dst r23.Src r23.Tag.Has r23.Tag.Pri r23.Tag.Dei r23.Tag.Vid r23.Type_ r23.Body
     | some (q27, q28) =>
      ether_reader_frame.k1 (some (q27, q28)) r20 r22.s r22.at_ r23.Dst r23.Src r23.Tag.Has r23.Tag.Pri r23.Tag.Dei r23.Tag.Vid r23.Type_ r23.Body
    else
     ether_reader_frame.k1 none (i64 r15) r17.s r17.at_ r3 r9 false 0 false 0 0 (⟨#[]⟩ : ByteArray)
   | some (q25, q26) =>
    ether_reader_frame.k1 (some (q25, q26)) (i64 r15) r17.s r17.at_ r3 r9 false 0 false 0 0 (⟨#[]⟩ : ByteArray)
  | some (q13, q14) =>
   some ((api_Frame.mk r3 r9 (api_Tag.mk false 0 false 0) 0 (⟨#[]⟩ : ByteArray)), some (q13, q14), r11)
 | some (q7, q8) =>
  some ((api_Frame.mk r3 0 (api_Tag.mk false 0 false 0) 0 (⟨#[]⟩ : ByteArray)), some (q7, q8), r5)
theorem ether_reader_frame_calls (k : Nat) (b_0 : Nat) (a0 : ether_reader) (r : api_Frame × Un1 × ether_reader) (h : ether_reader_frame.f k a0 = some r) : Does Tryz.prog 68 #[.pointer (some ⟨b_0, 0, none⟩)] [(b_0, ether_reader.o a0)] Glob (fun _ : Unit => .tuple #[api_Frame.v r.1, Un1.v r.2.1]) (fun _ => [(b_0, ether_reader.o r.2.2)]) (fun _ => []) (fun _ => Glob) := by
 intro w Z hS
 refine callsS (args := [.pointer (some ⟨b_0, 0, none⟩)]) (L := [(0, .pointer (some ⟨b_0, 0, none⟩))]) (N := 56) Tryz.func68 hS ?_
 have hM := h
 clear h hS
 unfold ether_reader_frame.f at hM
 refine WP.seq ?_
 refine WP.rh [] (fun b1 => [(2, .pointer (some ⟨b1, 0, none⟩)), (3, .nilIface)]) (fun b1 => []) (fun b1 => [(b1, .cells #[.int .u64 0, .int .u64 0, .bool false, .int .i64 0, .bool false, .int .i64 0, .int .i64 0, .string (⟨#[]⟩ : ByteArray)] 26 (0, 0))]) (fun b1 => ?_)
 refine WP.seq ?_
 refine WP.rh [] (fun b2 => [(4, .pointer (some ⟨b2, 0, none⟩))]) (fun b2 => []) (fun b2 => [(b2, .cells #[.int .u64 0, .int .u64 0, .bool false, .int .i64 0, .bool false, .int .i64 0, .int .i64 0, .string (⟨#[]⟩ : ByteArray)] 26 (0, 0))]) (fun b2 => ?_)
 refine WP.seq (WP.rn [] [(5, .nilIface)] ?_)
 refine WP.seq (WP.seq (WP.region ?_))
 refine WL.rn 1 [] [(10, .pointer (some ⟨b_0, 0, none⟩))] ?_
 obtain ⟨⟨r3, r4, r5⟩, h6, hM⟩ := bind_some hM
 dsimp only at hM
 refine WL.callE (X := Unit) [] [] [true, false, false] (fun _ => _) (ether_reader_get_calls k b_0 a0 6 (⟨#[116, 111]⟩ : ByteArray) _ h6) rfl rfl (fun _ h => h) (by kernel_rfl) (by kernel_rfl) (fun _ => rfl) (fun _ => ?_)
 refine WL.rh 6 [2] (fun _ => [(5, Un1.v r4)]) (fun _ => [(2, 0, [.int .u64 r3])]) (fun _ => []) (fun _ => ?_)
 refine WP.done (WP.seq (WP.region (WL.rn 1 [] [(15, Un1.v r4)] ?_)))
 rcases r4 with _ | ⟨q7, q8⟩
 ·dsimp only at hM
  refine WL.rn 1 [] [(16, .bool false)] ?_
  refine WP.done (WP.no rfl rfl (WP.skip (WP.seq (WP.seq (WP.region ?_)))))
  refine WL.rn 1 [] [(20, .pointer (some ⟨b_0, 0, none⟩))] ?_
  obtain ⟨⟨r9, r10, r11⟩, h12, hM⟩ := bind_some hM
  dsimp only at hM
  refine WL.callE (X := Unit) [] [] [true, false, false] (fun _ => _) (ether_reader_get_calls k b_0 r5 6 (⟨#[102, 114, 111, 109]⟩ : ByteArray) _ h12) rfl rfl (fun _ h => h) (by kernel_rfl) (by kernel_rfl) (fun _ => rfl) (fun _ => ?_)
  refine WL.rh 6 [2] (fun _ => [(5, Un1.v r10)]) (fun _ => [(2, 1, [.int .u64 r9])]) (fun _ => []) (fun _ => ?_)
  refine WP.done (WP.seq (WP.region (WL.rn 1 [] [(25, Un1.v r10)] ?_)))
  rcases r10 with _ | ⟨q13, q14⟩
  ·dsimp only at hM
   refine WL.rn 1 [] [(26, .bool false)] ?_
   refine WP.done (WP.no rfl rfl (WP.skip (WP.seq (WP.region ?_))))
   refine WL.rn 1 [] [(30, .pointer (some ⟨b_0, 0, none⟩))] ?_
   obtain ⟨⟨r15, r16, r17⟩, h18, hM⟩ := bind_some hM
   dsimp only at hM
   refine WL.callE (X := Unit) [] [] [true, false, false] (fun _ => _) (ether_reader_get_calls k b_0 r11 2 (⟨#[116, 121, 112, 101]⟩ : ByteArray) _ h18) rfl rfl (fun _ h => h) (by kernel_rfl) (by kernel_rfl) (fun _ => rfl) (fun _ => ?_)
   refine WL.rn 5 [] [(5, Un1.v r16), (6, .int .u64 r15)] ?_
   refine WP.done (WP.seq (WP.rn [] [(7, .int .i64 (i64 r15))] ?_))
   refine WP.seqJoin (σ := Un1 × Int × ByteArray × Int × Int × Int × Bool × Int × Bool × Int × Int × ByteArray) (fun st => ether_reader_frame.k1 st.1 st.2.1 st.2.2.1 st.2.2.2.1 st.2.2.2.2.1 st.2.2.2.2.2.1 st.2.2.2.2.2.2.1 st.2.2.2.2.2.2.2.1 st.2.2.2.2.2.2.2.2.1 st.2.2.2.2.2.2.2.2.2.1 st.2.2.2.2.2.2.2.2.2.2.1 st.2.2.2.2.2.2.2.2.2.2.2 = some r) (fun st => [(0, .pointer (some ⟨b_0, 0, none⟩)), (2, .pointer (some ⟨b1, 0, none⟩)), (3, .nilIface), (4, .pointer (some ⟨b2, 0, none⟩)), (5, Un1.v st.1), (7, .int .i64 st.2.1)]) (fun st => Sat w Z [(b_0, .cells #[.string st.2.2.1, .int .i64 st.2.2.2.1] 174 (0, 0)), (b2, .cells #[.int .u64 st.2.2.2.2.1, .int .u64 st.2.2.2.2.2.1, .bool st.2.2.2.2.2.2.1, .int .i64 st.2.2.2.2.2.2.2.1, .bool st.2.2.2.2.2.2.2.2.1, .int .i64 st.2.2.2.2.2.2.2.2.2.1, .int .i64 st.2.2.2.2.2.2.2.2.2.2.1, .string st.2.2.2.2.2.2.2.2.2.2.2] 26 (0, 0)), (b1, .cells #[.int .u64 0, .int .u64 0, .bool false, .int .i64 0, .bool false, .int .i64 0, .int .i64 0, .string (⟨#[]⟩ : ByteArray)] 26 (0, 0))] [] Glob) (fun st hM => ?_) (fun K1 => ?_)
   ·
    obtain ⟨x29, x30, x31, x32, x33, x34, x35, x36, x37, x38, x39, x40⟩ := st
    replace hM : ether_reader_frame.k1 x29 x30 x31 x32 x33 x34 x35 x36 x37 x38 x39 x40 = some r := hM
    unfold ether_reader_frame.k1 at hM
    try dsimp only
    refine WP.seq (WP.seq (WP.region (WL.rn 1 [] [(47, Un1.v x29)] ?_)))
    rcases x29 with _ | ⟨q41, q42⟩
    ·dsimp only at hM
     refine WL.rn 1 [] [(48, .bool false)] ?_
     refine WP.done (WP.no rfl rfl (WP.skip (WP.seq (WP.region ?_))))
     refine WL.rn 2 [] [(51, .pointer (some ⟨b_0, 0, none⟩)), (52, .int .i64 x30)] ?_
     obtain ⟨⟨r43, r44⟩, h45, hM⟩ := bind_some hM
     dsimp only at hM
     refine WL.callE (X := Unit) [] [] [true, true, false] (fun _ => _) (ether_reader_body_calls b_0 b2 (ether_reader.mk x31 x32) (api_Frame.mk x33 x34 (api_Tag.mk x35 x36 x37 x38) x39 x40) x30 _ h45) rfl rfl (fun _ h => h) (by kernel_rfl) (by kernel_rfl) (fun _ => rfl) (fun _ => ?_)
     refine WL.rn 1 [] [(8, Un1.v r43)] ?_
     refine WP.done (WP.seq ?_)
     refine WP.rh [1, 1, 1, 1, 1, 1, 1, 1, 2, 2, 2, 2, 2, 2, 2, 2] (fun _ => [(3, Un1.v r43)]) (fun _ => [(2, 0, [.int .u64 r44.Dst, .int .u64 r44.Src, .bool r44.Tag.Has, .int .i64 r44.Tag.Pri, .bool r44.Tag.Dei, .int .i64 r44.Tag.Vid, .int .i64 r44.Type_, .string r44.Body])]) (fun _ => []) (fun _ => ?_)
     refine WP.kp [true, false, true] ?_
     rcases r43 with _ | ⟨q46, q47⟩
     ·dsimp only at hM
      obtain rfl := Option.some.inj hM
      exact WP.ret [1, 1, 1, 1, 1, 1, 1, 1] [b1, b1, b1, b1, b1, b1, b1, b1] (.tuple #[api_Frame.v r44, .nilIface]) (by kernel_rfl) (fun w' hw => ⟨(), rfl, hw.pick [0] (by kernel_rfl)⟩)
     ·dsimp only at hM
      obtain rfl := Option.some.inj hM
      exact WP.ret [1, 1, 1, 1, 1, 1, 1, 1] [b1, b1, b1, b1, b1, b1, b1, b1] (.tuple #[api_Frame.v r44, .iface 434 (.agg #[.string q46, .iface 29 (.int .i64 q47)])]) (by kernel_rfl) (fun w' hw => ⟨(), rfl, hw.pick [0] (by kernel_rfl)⟩)
    ·dsimp only at hM
     refine WL.rn 1 [] [(48, .bool true)] ?_
     refine WP.done (WP.yes rfl rfl (WP.seq ?_))
     refine WP.rh [1, 1, 1, 1, 1, 1, 1, 1, 2, 2, 2, 2, 2, 2, 2, 2] (fun _ => [(3, .iface 434 (.agg #[.string q41, .iface 29 (.int .i64 q42)]))]) (fun _ => [(2, 0, [.int .u64 x33, .int .u64 x34, .bool x35, .int .i64 x36, .bool x37, .int .i64 x38, .int .i64 x39, .string x40])]) (fun _ => []) (fun _ => ?_)
     obtain rfl := Option.some.inj hM
     exact WP.ret [2, 2, 2, 2, 2, 2, 2, 2] [b1, b1, b1, b1, b1, b1, b1, b1] (.tuple #[.agg #[.int .u64 x33, .int .u64 x34, .bool x35, .int .i64 x36, .bool x37, .int .i64 x38, .int .i64 x39, .string x40], .iface 434 (.agg #[.string q41, .iface 29 (.int .i64 q42)])]) (by kernel_rfl) (fun w' hw => ⟨(), rfl, hw.pick [0] (by kernel_rfl)⟩)
   ·
    refine WP.seq (WP.region (WL.rn 1 [] [(36, Un1.v r16)] ?_))
    rcases r16 with _ | ⟨q25, q26⟩
    ·dsimp only at hM
     refine WL.rn 5 [] [(41, .bool ((i64 r15) == 33024))] ?_
     refine WP.done ?_
     refine WP.cond ((i64 r15) == 33024) rfl rfl (fun c19 => ?_) (fun c19 => ?_)
     ·replace hM := cond_t hM c19
      refine WP.region ?_
      refine WL.rn 1 [] [(43, .pointer (some ⟨b_0, 0, none⟩))] ?_
      obtain ⟨⟨r20, r21, r22, r23⟩, h24, hM⟩ := bind_some hM
      dsimp only at hM
      refine WL.callE (X := Unit) [] [] [true, false, true] (fun _ => _) (ether_reader_tagged_calls k b_0 b2 r17 (api_Frame.mk r3 r9 (api_Tag.mk false 0 false 0) 0 (⟨#[]⟩ : ByteArray)) _ h24) rfl rfl (fun _ h => h) (by kernel_rfl) (by kernel_rfl) (fun _ => rfl) (fun _ => ?_)
      refine WL.rn 5 [] [(5, Un1.v r21), (7, .int .i64 r20)] ?_
      refine WP.done ?_
      rcases r21 with _ | ⟨q27, q28⟩
      ·dsimp only at hM
       exact WP.sub [0, 2, 3, 4, 5, 7] (by kernel_rfl) (WP.pick [0, 1, 2] (by kernel_rfl) (by kernel_rfl) (K1 (none, r20, r22.s, r22.at_, r23.Dst, r23.Src, r23.Tag.Has, r23.Tag.Pri, r23.Tag.Dei, r23.Tag.Vid, r23.Type_, r23.Body) hM))
      ·dsimp only at hM
       exact WP.sub [0, 2, 3, 4, 5, 7] (by kernel_rfl) (WP.pick [0, 1, 2] (by kernel_rfl) (by kernel_rfl) (K1 (some (q27, q28), r20, r22.s, r22.at_, r23.Dst, r23.Src, r23.Tag.Has, r23.Tag.Pri, r23.Tag.Dei, r23.Tag.Vid, r23.Type_, r23.Body) hM))
     ·replace hM := cond_f hM c19
      refine WP.skip ?_
      exact WP.sub [0, 2, 3, 4, 5, 7] (by kernel_rfl) (WP.pick [0, 2, 1] (by kernel_rfl) (by kernel_rfl) (K1 (none, i64 r15, r17.s, r17.at_, r3, r9, false, 0, false, 0, 0, (⟨#[]⟩ : ByteArray)) hM))
    ·dsimp only at hM
     refine WL.rn 5 [] [(41, .bool false)] ?_
     refine WP.done (WP.no rfl rfl (WP.skip ?_))
     exact WP.sub [0, 2, 3, 4, 5, 7] (by kernel_rfl) (WP.pick [0, 2, 1] (by kernel_rfl) (by kernel_rfl) (K1 (some (q25, q26), i64 r15, r17.s, r17.at_, r3, r9, false, 0, false, 0, 0, (⟨#[]⟩ : ByteArray)) hM))
  ·dsimp only at hM
   refine WL.rn 1 [] [(26, .bool true)] ?_
   refine WP.done (WP.yes rfl rfl (WP.seq ?_))
   refine WP.rh [2, 2, 2, 2, 2, 2, 2, 2, 1, 1, 1, 1, 1, 1, 1, 1] (fun _ => [(3, .iface 434 (.agg #[.string q13, .iface 29 (.int .i64 q14)]))]) (fun _ => [(1, 0, [.int .u64 r3, .int .u64 r9])]) (fun _ => []) (fun _ => ?_)
   obtain rfl := Option.some.inj hM
   exact WP.ret [1, 1, 1, 1, 1, 1, 1, 1] [b1, b1, b1, b1, b1, b1, b1, b1] (.tuple #[.agg #[.int .u64 r3, .int .u64 r9, .bool false, .int .i64 0, .bool false, .int .i64 0, .int .i64 0, .string (⟨#[]⟩ : ByteArray)], .iface 434 (.agg #[.string q13, .iface 29 (.int .i64 q14)])]) (by kernel_rfl) (fun w' hw => ⟨(), rfl, hw.pick [0] (by kernel_rfl)⟩)
 ·dsimp only at hM
  refine WL.rn 1 [] [(16, .bool true)] ?_
  refine WP.done (WP.yes rfl rfl (WP.seq ?_))
  refine WP.rh [2, 2, 2, 2, 2, 2, 2, 2, 1, 1, 1, 1, 1, 1, 1, 1] (fun _ => [(3, .iface 434 (.agg #[.string q7, .iface 29 (.int .i64 q8)]))]) (fun _ => [(1, 0, [.int .u64 r3])]) (fun _ => []) (fun _ => ?_)
  obtain rfl := Option.some.inj hM
  exact WP.ret [1, 1, 1, 1, 1, 1, 1, 1] [b1, b1, b1, b1, b1, b1, b1, b1] (.tuple #[.agg #[.int .u64 r3, .int .u64 0, .bool false, .int .i64 0, .bool false, .int .i64 0, .int .i64 0, .string (⟨#[]⟩ : ByteArray)], .iface 434 (.agg #[.string q7, .iface 29 (.int .i64 q8)])]) (by kernel_rfl) (fun w' hw => ⟨(), rfl, hw.pick [0] (by kernel_rfl)⟩)
def errors_Is.f (a1 : Int) : Option (Bool) :=
 some false
theorem errors_Is_calls (a1 : Int) (r : Bool) (h : errors_Is.f a1 = some r) : Pure Tryz.prog Glob 69 #[.nilIface, .iface 29 (.int .i64 a1)] (.bool r) := by
 intro w Z hS
 refine callsS (args := [.nilIface, .iface 29 (.int .i64 a1)]) (L := [(0, .nilIface), (1, .iface 29 (.int .i64 a1))]) (N := 22) Tryz.func69 hS ?_
 have hM := h
 clear h hS
 unfold errors_Is.f at hM
 refine WP.seq (WP.rn [] [(4, .bool false)] ?_)
 refine WP.seq (WP.seq (WP.rn [] [(11, .bool true)] ?_))
 refine WP.yes rfl rfl (WP.seq (WP.rn [] [(4, .bool false)] ?_))
 obtain rfl := Option.some.inj hM
 exact WP.retQ [] []
def ether_odd_Unwrap.f (a0 : ByteArray) (a0_1 : Int) : Option (Int) :=
 some a0_1
theorem ether_odd_Unwrap_calls (a0 : ByteArray) (a0_1 : Int) (r : Int) (h : ether_odd_Unwrap.f a0 a0_1 = some r) : Pure Tryz.prog Glob 411 #[.agg #[.string a0, .iface 29 (.int .i64 a0_1)]] (.iface 29 (.int .i64 r)) := by
 intro w Z hS
 refine callsS (args := [.agg #[.string a0, .iface 29 (.int .i64 a0_1)]]) (L := [(0, .agg #[.string a0, .iface 29 (.int .i64 a0_1)])]) (N := 5) Tryz.func411 hS ?_
 have hM := h
 clear h hS
 unfold ether_odd_Unwrap.f at hM
 refine WP.seq ?_
 refine WP.rh [] (fun b1 => [(1, .pointer (some ⟨b1, 0, none⟩)), (2, .nilIface)]) (fun b1 => []) (fun b1 => [(b1, .cells #[.string a0, .iface 29 (.int .i64 a0_1)] 434 (0, 0))]) (fun b1 => ?_)
 refine WP.seq (WP.rn [0] [(2, .iface 29 (.int .i64 a0_1))] ?_)
 refine WP.kp [false] ?_
 obtain rfl := Option.some.inj hM
 exact WP.retQ [] []
def errors_is.f (a0 : ByteArray) (a0_1 : Int) (a1 : Int) (a2 : Bool) : Option (Bool) :=
 (ether_odd_Unwrap.f a0 a0_1).bind fun r2 =>
 bif (a2 && (r2 == a1)) then
  some true
 else
  some false
theorem errors_is_calls (a0 : ByteArray) (a0_1 : Int) (a1 : Int) (a2 : Bool) (r : Bool) (h : errors_is.f a0 a0_1 a1 a2 = some r) : Pure Tryz.prog Glob 153 #[.iface 434 (.agg #[.string a0, .iface 29 (.int .i64 a0_1)]), .iface 29 (.int .i64 a1), .bool a2] (.bool r) := by
 intro w Z hS
 refine callsS (args := [.iface 434 (.agg #[.string a0, .iface 29 (.int .i64 a0_1)]), .iface 29 (.int .i64 a1), .bool a2]) (L := [(0, .iface 434 (.agg #[.string a0, .iface 29 (.int .i64 a0_1)])), (1, .iface 29 (.int .i64 a1)), (2, .bool a2)]) (N := 54) Tryz.func153 hS ?_
 have hM := h
 clear h hS
 unfold errors_is.f at hM
 refine WP.seq (WP.rn [] [(6, .bool false)] ?_)
 refine WP.block (WP.unroll 40 ?_)
 refine WP.block (WP.seq (WP.seq (WP.region (WL.rn 2 [] [(14, .bool a2), (15, .bool a2)] ?_))))
 refine WL.bo 15 a2 4 [] [] (fun b' => [(19, .bool false)]) ?_
 refine WP.done (WP.no rfl rfl (WP.skip (WP.seq (WP.seq (WP.region (WL.rn 1 [] [(21, .iface 434 (.agg #[.string a0, .iface 29 (.int .i64 a0_1)]))] ?_))))))
 refine WL.val (fun _ => run_assertLacks (t := 434) (v := .agg #[.string a0, .iface 29 (.int .i64 a0_1)]) (z := .nilIface) (by kernel_rfl) (by kernel_rfl) (by kernel_rfl)) (by kernel_rfl) (by kernel_rfl) rfl ?_
 refine WL.rn 5 [] [(7, .nilIface), (8, .bool false), (20, .tuple #[.nilIface, .bool false]), (23, .nilIface), (24, .bool false)] ?_
 refine WP.done (WP.seq (WP.rn [] [(25, .bool false), (26, .bool false), (27, .tuple #[]), (28, .tuple #[]), (29, .tuple #[]), (30, .bool false)] ?_))
 refine WP.no rfl rfl (WP.skip (WP.seq (WP.rn [] [(31, .iface 434 (.agg #[.string a0, .iface 29 (.int .i64 a0_1)]))] ?_)))
 refine WP.block (WP.seq (WP.region ?_))
 refine WL.val (fun _ => run_assertHas (t := 434) (v := .agg #[.string a0, .iface 29 (.int .i64 a0_1)]) (by kernel_rfl) (by kernel_rfl)) (by kernel_rfl) (by kernel_rfl) rfl ?_
 refine WL.rn 2 [] [(33, .bool true), (34, .iface 434 (.agg #[.string a0, .iface 29 (.int .i64 a0_1)]))] ?_
 refine WP.done (WP.yes rfl rfl (WP.seq (WP.rn [] [(9, .iface 434 (.agg #[.string a0, .iface 29 (.int .i64 a0_1)]))] ?_)))
 refine WP.seq (WP.region (WL.rn 1 [] [(35, .iface 434 (.agg #[.string a0, .iface 29 (.int .i64 a0_1)]))] ?_))
 obtain ⟨r2, h3, hM⟩ := bind_some hM
 refine WL.callP [] [] (ether_odd_Unwrap_calls a0 a0_1 _ h3) (fun _ h => h) (by kernel_rfl) (by kernel_rfl) rfl ?_
 refine WL.rn 1 [] [(0, .iface 29 (.int .i64 r2))] ?_
 refine WP.done (WP.seq (WP.rn [] [(37, .iface 29 (.int .i64 r2)), (38, .bool false)] ?_))
 refine WP.no rfl rfl (WP.skip (WP.leave (WP.leave (WP.round ?_))))
 refine WP.block (WP.seq (WP.seq (WP.region (WL.rn 2 [] [(14, .bool a2), (15, .bool a2)] ?_))))
 refine WL.bo 15 a2 4 [] [] (fun b' => [(19, .bool (b' && (r2 == a1)))]) ?_
 refine WP.done ?_
 refine WP.cond (a2 && (r2 == a1)) rfl rfl (fun c4 => ?_) (fun c4 => ?_)
 ·replace hM := cond_t hM c4
  refine WP.seq (WP.rn [] [(6, .bool true)] ?_)
  obtain rfl := Option.some.inj hM
  exact WP.retQ [] []
 ·replace hM := cond_f hM c4
  refine WP.skip (WP.seq (WP.seq (WP.region (WL.rn 1 [] [(21, .iface 29 (.int .i64 r2))] ?_))))
  refine WL.val (fun _ => run_assertLacks (t := 29) (v := .int .i64 r2) (z := .nilIface) (by kernel_rfl) (by kernel_rfl) (by kernel_rfl)) (by kernel_rfl) (by kernel_rfl) rfl ?_
  refine WL.rn 5 [] [(7, .nilIface), (8, .bool false), (20, .tuple #[.nilIface, .bool false]), (23, .nilIface), (24, .bool false)] ?_
  refine WP.done (WP.seq (WP.rn [] [(25, .bool false), (26, .bool false), (27, .tuple #[]), (28, .tuple #[]), (29, .tuple #[]), (30, .bool false)] ?_))
  refine WP.no rfl rfl (WP.skip (WP.seq (WP.rn [] [(31, .iface 29 (.int .i64 r2))] ?_)))
  refine WP.block (WP.seq (WP.region ?_))
  refine WL.val (fun _ => run_assertLacks (t := 29) (v := .int .i64 r2) (z := .nilIface) (by kernel_rfl) (by kernel_rfl) (by kernel_rfl)) (by kernel_rfl) (by kernel_rfl) rfl ?_
  refine WL.rn 2 [] [(33, .bool false), (34, .nilIface)] ?_
  refine WP.done (WP.no rfl rfl (WP.seq (WP.region ?_)))
  refine WL.val (fun _ => run_assertLacks (t := 29) (v := .int .i64 r2) (z := .nilIface) (by kernel_rfl) (by kernel_rfl) (by kernel_rfl)) (by kernel_rfl) (by kernel_rfl) rfl ?_
  refine WL.rn 2 [] [(40, .bool false), (41, .nilIface)] ?_
  refine WP.done (WP.no rfl rfl (WP.seq (WP.rn [] [] ?_)))
  refine WP.seq (WP.rn [] [(6, .bool false)] ?_)
  obtain rfl := Option.some.inj hM
  exact WP.retQ [] []
def errors_Is_1.f (a0 : ByteArray) (a0_1 : Int) (a1 : Int) : Option (Bool) :=
 (errors_is.f a0 a0_1 a1 true).bind fun r1 =>
 some r1
theorem errors_Is_1_calls (a0 : ByteArray) (a0_1 : Int) (a1 : Int) (r : Bool) (h : errors_Is_1.f a0 a0_1 a1 = some r) : Pure Tryz.prog Glob 69 #[.iface 434 (.agg #[.string a0, .iface 29 (.int .i64 a0_1)]), .iface 29 (.int .i64 a1)] (.bool r) := by
 intro w Z hS
 refine callsS (args := [.iface 434 (.agg #[.string a0, .iface 29 (.int .i64 a0_1)]), .iface 29 (.int .i64 a1)]) (L := [(0, .iface 434 (.agg #[.string a0, .iface 29 (.int .i64 a0_1)])), (1, .iface 29 (.int .i64 a1))]) (N := 22) Tryz.func69 hS ?_
 have hM := h
 clear h hS
 unfold errors_Is_1.f at hM
 refine WP.seq (WP.rn [] [(4, .bool false)] ?_)
 refine WP.seq (WP.seq (WP.rn [] [(11, .bool false)] ?_))
 refine WP.no rfl rfl (WP.skip (WP.seq (WP.rn [] [(5, .bool true)] ?_)))
 refine WP.seq (WP.region (WL.rn 3 [] [(18, .iface 434 (.agg #[.string a0, .iface 29 (.int .i64 a0_1)])), (19, .iface 29 (.int .i64 a1)), (20, .bool true)] ?_))
 obtain ⟨r1, h2, hM⟩ := bind_some hM
 refine WL.callP [] [] (errors_is_calls a0 a0_1 a1 true _ h2) (fun _ h => h) (by kernel_rfl) (by kernel_rfl) rfl ?_
 refine WL.rn 1 [] [(4, .bool r1)] ?_
 refine WP.done ?_
 obtain rfl := Option.some.inj hM
 exact WP.retQ [] []
def errors_as_1.f (a0 : ByteArray) (a0_1 : Int) (a1 : Int) : Option (Bool × Int) :=
 (ether_odd_Unwrap.f a0 a0_1).bind fun r3 =>
 some (true, r3)
theorem errors_as_1_calls (b_0 : Nat) (b_1 : Nat) (a0 : ByteArray) (a0_1 : Int) (a1 : Int) (r : Bool × Int) (h : errors_as_1.f a0 a0_1 a1 = some r) : Does Tryz.prog 161 #[.iface 434 (.agg #[.string a0, .iface 29 (.int .i64 a0_1)]), .iface 311 (.pointer (some ⟨b_0, 0, none⟩)), .agg #[.pointer (some ⟨2, 311, none⟩), .pointer (some ⟨b_1, 0, none⟩), .int .u64 150], .iface 436 (.agg #[.pointer (some ⟨2, 29, none⟩)])] [(b_0, .cells #[.int .i64 a1] 29 (0, 0)), (b_1, .cells #[.pointer (some ⟨b_0, 0, none⟩)] 311 (0, 0))] Glob (fun _ : Unit => .bool r.1) (fun _ => [(b_0, .cells #[.int .i64 r.2] 29 (0, 0)), (b_1, .cells #[.pointer (some ⟨b_0, 0, none⟩)] 311 (0, 0))]) (fun _ => []) (fun _ => Glob) := by
 intro w Z hS
 refine callsS (args := [.iface 434 (.agg #[.string a0, .iface 29 (.int .i64 a0_1)]), .iface 311 (.pointer (some ⟨b_0, 0, none⟩)), .agg #[.pointer (some ⟨2, 311, none⟩), .pointer (some ⟨b_1, 0, none⟩), .int .u64 150], .iface 436 (.agg #[.pointer (some ⟨2, 29, none⟩)])]) (L := [(0, .iface 434 (.agg #[.string a0, .iface 29 (.int .i64 a0_1)])), (1, .iface 311 (.pointer (some ⟨b_0, 0, none⟩))), (2, .agg #[.pointer (some ⟨2, 311, none⟩), .pointer (some ⟨b_1, 0, none⟩), .int .u64 150]), (3, .iface 436 (.agg #[.pointer (some ⟨2, 29, none⟩)]))]) (N := 62) Tryz.func161 hS ?_
 have hM := h
 clear h hS
 unfold errors_as_1.f at hM
 refine WP.seq ?_
 refine WP.rh [] (fun b1 => [(6, .pointer (some ⟨b1, 0, none⟩)), (8, .bool false)]) (fun b1 => []) (fun b1 => [(b1, .cells #[.pointer (some ⟨2, 311, none⟩), .pointer (some ⟨b_1, 0, none⟩), .int .u64 150] 322 (0, 0))]) (fun b1 => ?_)
 refine WP.block (WP.unroll 40 ?_)
 refine WP.block (WP.seq (WP.seq ?_))
 refine WP.rn [] [(16, .iface 434 (.agg #[.string a0, .iface 29 (.int .i64 a0_1)])), (17, .iface 436 (.agg #[.pointer (some ⟨2, 434, none⟩)])), (18, .iface 436 (.agg #[.pointer (some ⟨2, 29, none⟩)])), (19, .bool false)] ?_
 refine WP.no rfl rfl (WP.skip (WP.seq (WP.seq (WP.region (WL.rn 1 [] [(26, .iface 434 (.agg #[.string a0, .iface 29 (.int .i64 a0_1)]))] ?_)))))
 refine WL.val (fun _ => run_assertLacks (t := 434) (v := .agg #[.string a0, .iface 29 (.int .i64 a0_1)]) (z := .nilIface) (by kernel_rfl) (by kernel_rfl) (by kernel_rfl)) (by kernel_rfl) (by kernel_rfl) rfl ?_
 refine WL.rn 5 [] [(9, .nilIface), (10, .bool false), (25, .tuple #[.nilIface, .bool false]), (28, .nilIface), (29, .bool false)] ?_
 refine WP.done (WP.seq (WP.rn [] [(30, .bool false), (31, .bool false), (32, .tuple #[]), (33, .tuple #[]), (34, .tuple #[]), (35, .bool false)] ?_))
 refine WP.no rfl rfl (WP.skip (WP.seq (WP.rn [] [(36, .iface 434 (.agg #[.string a0, .iface 29 (.int .i64 a0_1)]))] ?_)))
 refine WP.block (WP.seq (WP.region ?_))
 refine WL.val (fun _ => run_assertHas (t := 434) (v := .agg #[.string a0, .iface 29 (.int .i64 a0_1)]) (by kernel_rfl) (by kernel_rfl)) (by kernel_rfl) (by kernel_rfl) rfl ?_
 refine WL.rn 2 [] [(38, .bool true), (39, .iface 434 (.agg #[.string a0, .iface 29 (.int .i64 a0_1)]))] ?_
 refine WP.done (WP.yes rfl rfl (WP.seq (WP.rn [] [(11, .iface 434 (.agg #[.string a0, .iface 29 (.int .i64 a0_1)]))] ?_)))
 refine WP.seq (WP.region (WL.rn 1 [] [(40, .iface 434 (.agg #[.string a0, .iface 29 (.int .i64 a0_1)]))] ?_))
 obtain ⟨r3, h4, hM⟩ := bind_some hM
 refine WL.callP [] [] (ether_odd_Unwrap_calls a0 a0_1 _ h4) (fun _ h => h) (by kernel_rfl) (by kernel_rfl) rfl ?_
 refine WL.rn 1 [] [(0, .iface 29 (.int .i64 r3))] ?_
 refine WP.done (WP.seq (WP.rn [] [(42, .iface 29 (.int .i64 r3)), (43, .bool false)] ?_))
 refine WP.no rfl rfl (WP.skip (WP.leave (WP.leave (WP.round ?_))))
 refine WP.block (WP.seq (WP.seq ?_))
 refine WP.rn [] [(16, .iface 29 (.int .i64 r3)), (17, .iface 436 (.agg #[.pointer (some ⟨2, 29, none⟩)])), (18, .iface 436 (.agg #[.pointer (some ⟨2, 29, none⟩)])), (19, .bool true)] ?_
 refine WP.yes rfl rfl (WP.seq ?_)
 refine WP.rh [2, 2, 2, 1, 3, 0] (fun b5 => [(20, .agg #[.pointer (some ⟨2, 311, none⟩), .pointer (some ⟨b_1, 0, none⟩), .int .u64 150]), (21, .agg #[.pointer (some ⟨2, 29, none⟩), .pointer (some ⟨b_0, 0, none⟩), .int .u64 386]), (22, .iface 29 (.int .i64 r3)), (23, .agg #[.pointer (some ⟨2, 29, none⟩), .pointer (some ⟨b5, 0, none⟩), .int .u64 130])]) (fun b5 => [(0, 0, [.int .i64 r3])]) (fun b5 => [(b5, .cells #[.int .i64 r3] 29 (0, 0))]) (fun b5 => ?_)
 refine WP.seq (WP.rn [] [(8, .bool true)] ?_)
 obtain rfl := Option.some.inj hM
 exact WP.ret [] [] (.bool true) (by kernel_rfl) (fun w' hw => ⟨(), rfl, hw.pick [0, 1] (by kernel_rfl)⟩)
def errors_As_1.f (a0 : ByteArray) (a0_1 : Int) (a1 : Int) : Option (Bool × Int) :=
 (errors_as_1.f a0 a0_1 a1).bind fun (r2, r3) =>
 some (r2, r3)
theorem errors_As_1_calls (b_0 : Nat) (a0 : ByteArray) (a0_1 : Int) (a1 : Int) (r : Bool × Int) (h : errors_As_1.f a0 a0_1 a1 = some r) : Does Tryz.prog 74 #[.iface 434 (.agg #[.string a0, .iface 29 (.int .i64 a0_1)]), .iface 311 (.pointer (some ⟨b_0, 0, none⟩))] [(b_0, .cells #[.int .i64 a1] 29 (0, 0))] Glob (fun _ : Unit => .bool r.1) (fun _ => [(b_0, .cells #[.int .i64 r.2] 29 (0, 0))]) (fun _ => []) (fun _ => Glob) := by
 intro w Z hS
 refine callsS (args := [.iface 434 (.agg #[.string a0, .iface 29 (.int .i64 a0_1)]), .iface 311 (.pointer (some ⟨b_0, 0, none⟩))]) (L := [(0, .iface 434 (.agg #[.string a0, .iface 29 (.int .i64 a0_1)])), (1, .iface 311 (.pointer (some ⟨b_0, 0, none⟩)))]) (N := 42) Tryz.func74 hS ?_
 have hM := h
 clear h hS
 unfold errors_As_1.f at hM
 refine WP.seq (WP.rn [] [(4, .bool false)] ?_)
 refine WP.seq (WP.seq (WP.rn [] [(9, .bool false)] ?_))
 refine WP.no rfl rfl (WP.skip (WP.seq (WP.seq (WP.rn [] [(11, .bool false)] ?_))))
 refine WP.no rfl rfl (WP.skip (WP.seq ?_))
 refine WP.rh [2, 2, 2] (fun b1 => [(5, .pointer (some ⟨(b1 + 1), 0, none⟩))]) (fun b1 => []) (fun b1 => [(b1, .cells #[.pointer (some ⟨b_0, 0, none⟩)] 311 (0, 0)), ((b1 + 1), .cells #[.pointer (some ⟨2, 311, none⟩), .pointer (some ⟨b1, 0, none⟩), .int .u64 150] 322 (0, 0))]) (fun b1 => ?_)
 refine WP.seq ?_
 refine WP.rn [2, 2, 2] [(6, .iface 436 (.agg #[.pointer (some ⟨2, 311, none⟩)]))] ?_
 refine WP.seq (WP.seq (WP.rn [2, 2, 2, 1] [(23, .bool false)] ?_))
 refine WP.no rfl rfl (WP.skip (WP.seq ?_))
 refine WP.rn [] [(7, .iface 436 (.agg #[.pointer (some ⟨2, 29, none⟩)]))] ?_
 refine WP.seq (WP.seq (WP.region ?_))
 refine WL.rn 5 [] [(30, .bool true), (31, .iface 436 (.agg #[.pointer (some ⟨2, 29, none⟩)]))] ?_
 refine WL.loadGlob (v := .iface 436 (.agg #[.pointer (some ⟨2, 176, none⟩)])) (by simp [Glob]) (fun _ => by kernel_rfl) (by kernel_rfl) rfl ?_
 refine WL.rn 3 [] [(35, .bool false)] ?_
 refine WP.done (WP.no rfl rfl (WP.skip (WP.seq (WP.region ?_))))
 refine WL.rn 4 [2, 2, 2] [(37, .iface 434 (.agg #[.string a0, .iface 29 (.int .i64 a0_1)])), (38, .iface 311 (.pointer (some ⟨b_0, 0, none⟩))), (39, .agg #[.pointer (some ⟨2, 311, none⟩), .pointer (some ⟨b1, 0, none⟩), .int .u64 150]), (40, .iface 436 (.agg #[.pointer (some ⟨2, 29, none⟩)]))] ?_
 obtain ⟨⟨r2, r3⟩, h4, hM⟩ := bind_some hM
 dsimp only at hM
 refine WL.callE (X := Unit) [] [] [true, true, false] (fun _ => _) (errors_as_1_calls b_0 b1 a0 a0_1 a1 _ h4) rfl rfl (fun _ h => h) (by kernel_rfl) (by kernel_rfl) (fun _ => rfl) (fun _ => ?_)
 refine WL.rn 1 [] [(4, .bool r2)] ?_
 refine WP.done (WP.kp [true, false, false] ?_)
 obtain rfl := Option.some.inj hM
 exact WP.ret [] [] (.bool r2) (by kernel_rfl) (fun w' hw => ⟨(), rfl, hw.pick [0] (by kernel_rfl)⟩)
def ether_number.f (a0 : ByteArray) (a0_1 : Int) : Option (Int) :=
 (errors_As_1.f a0 a0_1 0).bind fun (r2, r3) =>
 bif r2 then
  some r3
 else
  some 0
theorem ether_number_calls (a0 : ByteArray) (a0_1 : Int) (r : Int) (h : ether_number.f a0 a0_1 = some r) : Pure Tryz.prog Glob 70 #[.iface 434 (.agg #[.string a0, .iface 29 (.int .i64 a0_1)])] (.int .i64 r) := by
 intro w Z hS
 refine callsS (args := [.iface 434 (.agg #[.string a0, .iface 29 (.int .i64 a0_1)])]) (L := [(0, .iface 434 (.agg #[.string a0, .iface 29 (.int .i64 a0_1)]))]) (N := 8) Tryz.func70 hS ?_
 have hM := h
 clear h hS
 unfold ether_number.f at hM
 refine WP.seq (WP.rn [] [(2, .int .i64 0)] ?_)
 refine WP.seq ?_
 refine WP.rh [] (fun b1 => [(3, .pointer (some ⟨b1, 0, none⟩))]) (fun b1 => []) (fun b1 => [(b1, .cells #[.int .i64 0] 29 (0, 0))]) (fun b1 => ?_)
 refine WP.seq (WP.seq (WP.region ?_))
 refine WL.rn 2 [] [(4, .iface 434 (.agg #[.string a0, .iface 29 (.int .i64 a0_1)])), (5, .iface 311 (.pointer (some ⟨b1, 0, none⟩)))] ?_
 obtain ⟨⟨r2, r3⟩, h4, hM⟩ := bind_some hM
 dsimp only at hM
 refine WL.callE (X := Unit) [] [] [true] (fun _ => _) (errors_As_1_calls b1 a0 a0_1 0 _ h4) rfl rfl (fun _ h => h) (by kernel_rfl) (by kernel_rfl) (fun _ => rfl) (fun _ => ?_)
 refine WP.done ?_
 refine WP.cond r2 rfl rfl (fun c5 => ?_) (fun c5 => ?_)
 ·replace hM := cond_t hM c5
  refine WP.seq (WP.rn [0] [(2, .int .i64 r3)] ?_)
  refine WP.kp [false] ?_
  obtain rfl := Option.some.inj hM
  exact WP.retQ [] []
 ·replace hM := cond_f hM c5
  refine WP.skip (WP.seq (WP.rn [] [(2, .int .i64 0)] ?_))
  refine WP.kp [false] ?_
  obtain rfl := Option.some.inj hM
  exact WP.retQ [] []
def ether_Parse.f (k : Nat) (a0 : ByteArray) : Option (api_Frame × Int) :=
 bif decide ((a0.size : Int) > 1600) then
  some ((api_Frame.mk 0 0 (api_Tag.mk false 0 false 0) 0 (⟨#[]⟩ : ByteArray)), 41)
 else
  (ether_reader_frame.f k (ether_reader.mk a0 0)).bind fun (r4, r5, r6) =>
  match r5 with
  | none =>
   (errors_Is.f 40).bind fun r9 =>
   bif r9 then
    some ((api_Frame.mk 0 0 (api_Tag.mk false 0 false 0) 0 (⟨#[]⟩ : ByteArray)), 40)
   else
    some (r4, 0)
  | some (q12, q13) =>
   (errors_Is_1.f q12 q13 40).bind fun r14 =>
   bif r14 then
    some ((api_Frame.mk 0 0 (api_Tag.mk false 0 false 0) 0 (⟨#[]⟩ : ByteArray)), 40)
   else
    (ether_number.f q12 q13).bind fun r17 =>
    some ((api_Frame.mk 0 0 (api_Tag.mk false 0 false 0) 0 (⟨#[]⟩ : ByteArray)), r17)
theorem ether_Parse_calls (k : Nat) (a0 : ByteArray) (r : api_Frame × Int) (h : ether_Parse.f k a0 = some r) : Pure Tryz.prog Glob 23 #[.string a0] (.tuple #[api_Frame.v r.1, .int .i64 r.2]) := by
 intro w Z hS
 refine callsS (args := [.string a0]) (L := [(0, .string a0)]) (N := 31) Tryz.func23 hS ?_
 have hM := h
 clear h hS
 unfold ether_Parse.f at hM
 refine WP.seq ?_
 refine WP.rh [] (fun b1 => [(2, .pointer (some ⟨b1, 0, none⟩)), (3, .int .i64 0)]) (fun b1 => []) (fun b1 => [(b1, .cells #[.int .u64 0, .int .u64 0, .bool false, .int .i64 0, .bool false, .int .i64 0, .int .i64 0, .string (⟨#[]⟩ : ByteArray)] 26 (0, 0))]) (fun b1 => ?_)
 refine WP.seq (WP.seq (WP.rn [] [(9, .bool (decide ((a0.size : Int) > 1600)))] ?_))
 refine WP.cond (decide ((a0.size : Int) > 1600)) rfl rfl (fun c2 => ?_) (fun c2 => ?_)
 ·replace hM := cond_t hM c2
  refine WP.seq (WP.rn [0, 0, 0, 0, 0, 0, 0, 0] [(3, .int .i64 41)] ?_)
  obtain rfl := Option.some.inj hM
  exact WP.retQ [0, 0, 0, 0, 0, 0, 0, 0] [b1, b1, b1, b1, b1, b1, b1, b1]
 ·replace hM := cond_f hM c2
  refine WP.skip (WP.seq ?_)
  refine WP.rh [] (fun b3 => [(4, .pointer (some ⟨b3, 0, none⟩))]) (fun b3 => []) (fun b3 => [(b3, .cells #[.string a0, .int .i64 0] 174 (0, 0))]) (fun b3 => ?_)
  refine WP.seq (WP.region ?_)
  refine WL.rn 1 [] [(15, .pointer (some ⟨b3, 0, none⟩))] ?_
  obtain ⟨⟨r4, r5, r6⟩, h7, hM⟩ := bind_some hM
  dsimp only at hM
  refine WL.callE (X := Unit) [] [] [false, true] (fun _ => _) (ether_reader_frame_calls k b3 (ether_reader.mk a0 0) _ h7) rfl rfl (fun _ h => h) (by kernel_rfl) (by kernel_rfl) (fun _ => rfl) (fun _ => ?_)
  refine WL.rh 6 [2, 2, 2, 2, 2, 2, 2, 2] (fun b8 => [(5, .pointer (some ⟨b8, 0, none⟩)), (6, Un1.v r5)]) (fun b8 => []) (fun b8 => [(b8, api_Frame.o r4)]) (fun b8 => ?_)
  refine WP.done (WP.kp [false, true, true] ?_)
  refine WP.seq (WP.block (WP.seq (WP.region (WL.rn 2 [] [(20, Un1.v r5), (21, .iface 29 (.int .i64 40))] ?_))))
  rcases r5 with _ | ⟨q12, q13⟩
  ·dsimp only at hM
   obtain ⟨r9, h10, hM⟩ := bind_some hM
   refine WL.callP [] [] (errors_Is_calls 40 _ h10) (fun _ h => h) (by kernel_rfl) (by kernel_rfl) rfl ?_
   refine WL.rn 1 [] [(19, .bool r9)] ?_
   refine WP.done ?_
   refine WP.cond r9 rfl rfl (fun c11 => ?_) (fun c11 => ?_)
   ·replace hM := cond_t hM c11
    refine WP.seq (WP.rn [0, 0, 0, 0, 0, 0, 0, 0] [(3, .int .i64 40)] ?_)
    obtain rfl := Option.some.inj hM
    exact WP.retQ [0, 0, 0, 0, 0, 0, 0, 0] [b1, b1, b1, b1, b1, b1, b1, b1]
   ·replace hM := cond_f hM c11
    refine WP.seq (WP.rn [] [(24, .bool false)] ?_)
    refine WP.no rfl rfl (WP.skip (WP.leave (WP.seq ?_)))
    refine WP.rh [1, 1, 1, 1, 1, 1, 1, 1, 0, 0, 0, 0, 0, 0, 0, 0] (fun _ => [(3, .int .i64 0)]) (fun _ => [(0, 0, [.int .u64 r4.Dst, .int .u64 r4.Src, .bool r4.Tag.Has, .int .i64 r4.Tag.Pri, .bool r4.Tag.Dei, .int .i64 r4.Tag.Vid, .int .i64 r4.Type_, .string r4.Body])]) (fun _ => []) (fun _ => ?_)
    refine WP.kp [true, false] ?_
    obtain rfl := Option.some.inj hM
    exact WP.retQ [0, 0, 0, 0, 0, 0, 0, 0] [b1, b1, b1, b1, b1, b1, b1, b1]
  ·dsimp only at hM
   obtain ⟨r14, h15, hM⟩ := bind_some hM
   refine WL.callP [] [] (errors_Is_1_calls q12 q13 40 _ h15) (fun _ h => h) (by kernel_rfl) (by kernel_rfl) rfl ?_
   refine WL.rn 1 [] [(19, .bool r14)] ?_
   refine WP.done ?_
   refine WP.cond r14 rfl rfl (fun c16 => ?_) (fun c16 => ?_)
   ·replace hM := cond_t hM c16
    refine WP.seq (WP.rn [0, 0, 0, 0, 0, 0, 0, 0] [(3, .int .i64 40)] ?_)
    obtain rfl := Option.some.inj hM
    exact WP.retQ [0, 0, 0, 0, 0, 0, 0, 0] [b1, b1, b1, b1, b1, b1, b1, b1]
   ·replace hM := cond_f hM c16
    refine WP.seq (WP.rn [] [(24, .bool true)] ?_)
    refine WP.yes rfl rfl (WP.seq (WP.region ?_))
    refine WL.rn 2 [] [(27, .agg #[.int .u64 0, .int .u64 0, .bool false, .int .i64 0, .bool false, .int .i64 0, .int .i64 0, .string (⟨#[]⟩ : ByteArray)]), (28, .iface 434 (.agg #[.string q12, .iface 29 (.int .i64 q13)]))] ?_
    obtain ⟨r17, h18, hM⟩ := bind_some hM
    refine WL.callP [] [] (ether_number_calls q12 q13 _ h18) (fun _ h => h) (by kernel_rfl) (by kernel_rfl) rfl ?_
    refine WL.rn 2 [0, 0, 0, 0, 0, 0, 0, 0] [(3, .int .i64 r17)] ?_
    refine WP.done ?_
    obtain rfl := Option.some.inj hM
    exact WP.retQ [0, 0, 0, 0, 0, 0, 0, 0] [b1, b1, b1, b1, b1, b1, b1, b1]
def vxlan_Build.f (k : Nat) (a0 : Int) (a1 : ByteArray) : Option (ByteArray × Int) :=
 bif ((decide (a0 < 0)) || (decide (a0 > 16777215))) then
  some ((⟨#[]⟩ : ByteArray), 1)
 else
  (octets_Put.f k (u64 a0) 3).bind fun (r2, r3) =>
  (catS (ByteArray.push (ByteArray.push (ByteArray.push (ByteArray.push ByteArray.empty (UInt8.ofNat (Int.toNat 8))) (UInt8.ofNat (Int.toNat 0))) (UInt8.ofNat (Int.toNat 0))) (UInt8.ofNat (Int.toNat 0))) r2).bind fun t6 =>
  (catS t6 (⟨#[0]⟩ : ByteArray)).bind fun t8 =>
  (catS t8 a1).bind fun t10 =>
  some (t10, 0)
theorem vxlan_Build_calls (k : Nat) (a0 : Int) (a1 : ByteArray) (r : ByteArray × Int) (h : vxlan_Build.f k a0 a1 = some r) : Pure Tryz.prog Glob 295 #[.int .i64 a0, .string a1] (.tuple #[.string r.1, .int .i64 r.2]) := by
 intro w Z hS
 refine callsS (args := [.int .i64 a0, .string a1]) (L := [(0, .int .i64 a0), (1, .string a1)]) (N := 27) Tryz.func295 hS ?_
 have hM := h
 clear h hS
 unfold vxlan_Build.f at hM
 refine WP.seq ?_
 refine WP.rn [] [(4, .string (⟨#[]⟩ : ByteArray)), (5, .int .i64 0)] ?_
 refine WP.seq (WP.seq (WP.region (WL.rn 3 [] [(10, .bool (decide (a0 < 0)))] ?_)))
 refine WL.bo 10 (decide (a0 < 0)) 3 [] [] (fun b' => [(13, .bool (b' || (decide (a0 > 16777215))))]) ?_
 refine WP.done ?_
 refine WP.cond ((decide (a0 < 0)) || (decide (a0 > 16777215))) rfl rfl (fun c1 => ?_) (fun c1 => ?_)
 ·replace hM := cond_t hM c1
  refine WP.seq ?_
  refine WP.rn [] [(4, .string (⟨#[]⟩ : ByteArray)), (5, .int .i64 1)] ?_
  obtain rfl := Option.some.inj hM
  exact WP.retQ [] []
 ·replace hM := cond_f hM c1
  refine WP.skip (WP.seq (WP.region (WL.rn 2 [] [(16, .int .u64 (u64 a0))] ?_)))
  obtain ⟨⟨r2, r3⟩, h4, hM⟩ := bind_some hM
  dsimp only at hM
  refine WL.callP [] [] (octets_Put_calls k (u64 a0) 3 _ h4) (fun _ h => h) (by kernel_rfl) (by kernel_rfl) rfl ?_
  refine WL.rn 5 [] [(6, .string r2)] ?_
  refine WP.done (WP.seq (WP.region ?_))
  refine WL.rh 3 [0, 0, 0, 0] (fun b5 => [(21, .string (ByteArray.push (ByteArray.push (ByteArray.push (ByteArray.push ByteArray.empty (UInt8.ofNat (Int.toNat 8))) (UInt8.ofNat (Int.toNat 0))) (UInt8.ofNat (Int.toNat 0))) (UInt8.ofNat (Int.toNat 0)))), (22, .string r2)]) (fun b5 => []) (fun b5 => [(b5, .cells #[.int .u8 8, .int .u8 0, .int .u8 0, .int .u8 0] 5 (0, 0))]) (fun b5 => ?_)
  obtain ⟨t6, h7, hM⟩ := bind_some hM
  refine WL.val (fun _ => run_catS (a := (ByteArray.push (ByteArray.push (ByteArray.push (ByteArray.push ByteArray.empty (UInt8.ofNat (Int.toNat 8))) (UInt8.ofNat (Int.toNat 0))) (UInt8.ofNat (Int.toNat 0))) (UInt8.ofNat (Int.toNat 0)))) (b := r2) (by kernel_rfl) (by kernel_rfl) h7) (by kernel_rfl) (by kernel_rfl) rfl ?_
  obtain ⟨t8, h9, hM⟩ := bind_some hM
  refine WL.val (fun _ => run_catS (a := t6) (b := (⟨#[0]⟩ : ByteArray)) (by kernel_rfl) (by kernel_rfl) h9) (by kernel_rfl) (by kernel_rfl) rfl ?_
  refine WL.rn 1 [] [(25, .string a1)] ?_
  obtain ⟨t10, h11, hM⟩ := bind_some hM
  refine WL.val (fun _ => run_catS (a := t8) (b := a1) (by kernel_rfl) (by kernel_rfl) h11) (by kernel_rfl) (by kernel_rfl) rfl ?_
  refine WL.rn 2 [] [(4, .string t10), (5, .int .i64 0)] ?_
  refine WP.done (WP.kp [false] ?_)
  obtain rfl := Option.some.inj hM
  exact WP.retQ [] []
def vxlan_Hash.l1 (a0 : ByteArray) : Nat → Int → Int → Option (Int)
 | 0, _, _ => none
 | n + 1, x1, x2 =>
  bif decide (x2 < (a0.size : Int)) then
   (idxS a0 x2).bind fun t4 =>
   vxlan_Hash.l1 a0 n (u32 ((bXor .u32 x1 (u32 t4)) * 16777619)) (i64 (x2 + 1))
  else
   some x1
def vxlan_Hash.f (k : Nat) (a0 : ByteArray) : Option (Int) :=
 vxlan_Hash.l1 a0 k 2166136261 0
theorem vxlan_Hash_calls (k : Nat) (a0 : ByteArray) (r : Int) (h : vxlan_Hash.f k a0 = some r) : Pure Tryz.prog Glob 331 #[.string a0] (.int .u32 r) := by
 intro w Z hS
 refine callsS (args := [.string a0]) (L := [(0, .string a0)]) (N := 19) Tryz.func331 hS ?_
 have hM := h
 clear h hS
 unfold vxlan_Hash.f at hM
 refine WP.seq (WP.rn [] [(2, .int .u32 0)] ?_)
 refine WP.seq (WP.rn [] [(3, .int .u32 2166136261)] ?_)
 refine WP.seq (WP.seq (WP.rn [] [(6, .int .i64 (a0.size : Int)), (7, .int .i64 0)] ?_))
 refine WP.block (WP.sub [0, 2, 3, 6, 7] (L' := [(0, .string a0), (2, .int .u32 0), (3, .int .u32 2166136261), (6, .int .i64 (a0.size : Int)), (7, .int .i64 0)]) (by kernel_rfl) ?_)
 refine WP.loop (σ := Int × Int) (fun n st => vxlan_Hash.l1 a0 n st.1 st.2) r (fun st => [(0, .string a0), (2, .int .u32 0), (3, .int .u32 st.1), (6, .int .i64 (a0.size : Int)), (7, .int .i64 st.2)]) (fun st => Sat w Z [] [] Glob) (st := (2166136261, 0)) (fun n st hM => ?_) hM
 rcases n with _ | n
 ·exact nomatch (show (none : Option _) = some r from hM)
 obtain ⟨x1, x2⟩ := st
 replace hM : vxlan_Hash.l1 a0 (n + 1) x1 x2 = some r := hM
 rw [vxlan_Hash.l1] at hM
 try dsimp only
 refine WP.seq (WP.rn [] [(8, .bool (decide (x2 < (a0.size : Int))))] ?_)
 refine WP.seq ?_
 refine WP.cond (decide (x2 < (a0.size : Int))) rfl rfl (fun c3 => ?_) (fun c3 => ?_)
 ·replace hM := cond_t hM c3
  refine WP.skip (WP.seq (WP.block (WP.seq (WP.rn [] [(4, .int .i64 x2), (9, .int .i64 x2)] ?_))))
  refine WP.region (WL.rn 3 [] [(10, .int .u32 x1), (11, .string a0), (12, .int .i64 x2)] ?_)
  obtain ⟨t4, h5, hM⟩ := bind_some hM
  refine WL.val (fun _ => run_idxS (s := a0) (k := .i64) (i := x2) (by kernel_rfl) (by kernel_rfl) (by kernel_rfl) h5) (by kernel_rfl) (by kernel_rfl) rfl ?_
  refine WL.rn 4 [] [(3, .int .u32 (u32 ((bXor .u32 x1 (u32 t4)) * 16777619))), (14, .int .u32 (u32 t4)), (15, .int .u32 (bXor .u32 x1 (u32 t4))), (16, .int .u32 (u32 ((bXor .u32 x1 (u32 t4)) * 16777619)))] ?_
  refine WP.done (WP.leave (WP.rn [] [(7, .int .i64 (i64 (x2 + 1))), (17, .int .i64 (i64 (x2 + 1)))] ?_))
  exact WP.again' [0, 2, 3, 6, 7] (u32 ((bXor .u32 x1 (u32 t4)) * 16777619), i64 (x2 + 1)) hM (by kernel_rfl) (fun _ h => h.pick [] (by kernel_rfl))
 ·replace hM := cond_f hM c3
  refine WP.exit rfl (WP.seq (WP.rn [] [(2, .int .u32 x1)] ?_))
  obtain rfl := Option.some.inj hM
  exact WP.retQ [] []
def vxlan_Port.f (k : Nat) (a0 : ByteArray) : Option (Int) :=
 (sliceS a0 0 (imin (a0.size : Int) 14)).bind fun t1 =>
 (vxlan_Hash.f k t1).bind fun r3 =>
 some (i64 (49152 + (i64 (Int.tmod r3 16384))))
theorem vxlan_Port_calls (k : Nat) (a0 : ByteArray) (r : Int) (h : vxlan_Port.f k a0 = some r) : Pure Tryz.prog Glob 296 #[.string a0] (.int .i64 r) := by
 intro w Z hS
 refine callsS (args := [.string a0]) (L := [(0, .string a0)]) (N := 12) Tryz.func296 hS ?_
 have hM := h
 clear h hS
 unfold vxlan_Port.f at hM
 refine WP.seq (WP.rn [] [(2, .int .i64 0)] ?_)
 refine WP.seq (WP.region (WL.rn 4 [] [(3, .string a0), (6, .int .i64 (imin (a0.size : Int) 14))] ?_))
 obtain ⟨t1, h2, hM⟩ := bind_some hM
 refine WL.val (fun _ => run_sliceS_hi (s := a0) (kh := .i64) (h := imin (a0.size : Int) 14) (by kernel_rfl) (by kernel_rfl) (by kernel_rfl) h2) (by kernel_rfl) (by kernel_rfl) rfl ?_
 obtain ⟨r3, h4, hM⟩ := bind_some hM
 refine WL.callP [] [] (vxlan_Hash_calls k t1 _ h4) (fun _ h => h) (by kernel_rfl) (by kernel_rfl) rfl ?_
 refine WL.rn 4 [] [(2, .int .i64 (i64 (49152 + (i64 (Int.tmod r3 16384)))))] ?_
 refine WP.done ?_
 obtain rfl := Option.some.inj hM
 exact WP.retQ [] []
def vxlan_Parse.f (k : Nat) (a0 : ByteArray) : Option (Int × ByteArray × Int) :=
 bif decide ((a0.size : Int) < 8) then
  some (0, (⟨#[]⟩ : ByteArray), 80)
 else
  (idxS a0 0).bind fun t2 =>
  bif ((bAnd .u8 t2 8) == 0) then
   some (0, (⟨#[]⟩ : ByteArray), 81)
  else
   (octets_Get.f k a0 4 3).bind fun (r5, r6) =>
   (sliceS a0 8 (a0.size : Int)).bind fun t8 =>
   some (i64 r5, t8, 0)
theorem vxlan_Parse_calls (k : Nat) (a0 : ByteArray) (r : Int × ByteArray × Int) (h : vxlan_Parse.f k a0 = some r) : Pure Tryz.prog Glob 298 #[.string a0] (.tuple #[.int .i64 r.1, .string r.2.1, .int .i64 r.2.2]) := by
 intro w Z hS
 refine callsS (args := [.string a0]) (L := [(0, .string a0)]) (N := 25) Tryz.func298 hS ?_
 have hM := h
 clear h hS
 unfold vxlan_Parse.f at hM
 refine WP.seq ?_
 refine WP.rn [] [(2, .int .i64 0), (3, .string (⟨#[]⟩ : ByteArray)), (4, .int .i64 0)] ?_
 refine WP.seq (WP.block (WP.seq (WP.rn [] [(7, .bool (decide ((a0.size : Int) < 8)))] ?_)))
 refine WP.cond (decide ((a0.size : Int) < 8)) rfl rfl (fun c1 => ?_) (fun c1 => ?_)
 ·replace hM := cond_t hM c1
  refine WP.seq ?_
  refine WP.rn [] [(2, .int .i64 0), (3, .string (⟨#[]⟩ : ByteArray)), (4, .int .i64 80)] ?_
  obtain rfl := Option.some.inj hM
  exact WP.retQ [] []
 ·replace hM := cond_f hM c1
  refine WP.seq (WP.region (WL.rn 1 [] [(12, .string a0)] ?_))
  obtain ⟨t2, h3, hM⟩ := bind_some hM
  refine WL.val (fun _ => run_idxS (s := a0) (k := .i64) (i := 0) (by kernel_rfl) (by kernel_rfl) (by kernel_rfl) h3) (by kernel_rfl) (by kernel_rfl) rfl ?_
  refine WL.rn 3 [] [(11, .bool ((bAnd .u8 t2 8) == 0))] ?_
  refine WP.done ?_
  refine WP.cond ((bAnd .u8 t2 8) == 0) rfl rfl (fun c4 => ?_) (fun c4 => ?_)
  ·replace hM := cond_t hM c4
   refine WP.seq ?_
   refine WP.rn [] [(2, .int .i64 0), (3, .string (⟨#[]⟩ : ByteArray)), (4, .int .i64 81)] ?_
   obtain rfl := Option.some.inj hM
   exact WP.retQ [] []
  ·replace hM := cond_f hM c4
   refine WP.skip (WP.leave (WP.seq (WP.region (WL.rn 1 [] [(17, .string a0)] ?_))))
   obtain ⟨⟨r5, r6⟩, h7, hM⟩ := bind_some hM
   dsimp only at hM
   refine WL.callP [] [] (octets_Get_calls k a0 4 3 _ h7) (fun _ h => h) (by kernel_rfl) (by kernel_rfl) rfl ?_
   refine WL.rn 5 [] [(5, .int .u64 r5)] ?_
   refine WP.done (WP.seq (WP.quiet (by kernel_rfl) (by kernel_rfl) ?_))
   refine QL.rn 3 [] [(22, .int .i64 (i64 r5)), (23, .string a0)] ?_
   obtain ⟨t8, h9, hM⟩ := bind_some hM
   refine QL.val (fun _ => run_sliceS_lo (s := a0) (kl := .i64) (l := 8) (by kernel_rfl) (by kernel_rfl) (by kernel_rfl) h9) (by kernel_rfl) (by kernel_rfl) rfl ?_
   refine QL.rn 3 [] [(2, .int .i64 (i64 r5)), (3, .string t8), (4, .int .i64 0)] ?_
   refine QL.done ?_
   obtain rfl := Option.some.inj hM
   exact WP.retQ [] []
def udp_Check_1.f (a0 : Int) : Option (Bool) :=
 some ((decide (a0 ≥ 0)) && (decide (a0 < 65536)))
theorem udp_Check_1_calls (a0 : Int) (r : Bool) (h : udp_Check_1.f a0 = some r) : Pure Tryz.prog Glob 372 #[.int .i64 a0] (.bool r) := by
 intro w Z hS
 refine callsS (args := [.int .i64 a0]) (L := [(0, .int .i64 a0)]) (N := 9) Tryz.func372 hS ?_
 have hM := h
 clear h hS
 unfold udp_Check_1.f at hM
 refine WP.seq (WP.rn [] [(2, .bool false)] ?_)
 refine WP.seq (WP.region (WL.rn 3 [] [(5, .bool (decide (a0 ≥ 0)))] ?_))
 refine WL.bo 5 (decide (a0 ≥ 0)) 3 [] [] (fun b' => [(8, .bool (b' && (decide (a0 < 65536))))]) ?_
 refine WL.rn 1 [] [(2, .bool ((decide (a0 ≥ 0)) && (decide (a0 < 65536))))] ?_
 refine WP.done ?_
 obtain rfl := Option.some.inj hM
 exact WP.retQ [] []
def udp_Check.k1 (a0 : api_Udp) (x7 : Bool) : Option (Int) :=
 bif (x7 && (decide ((a0.Body.size : Int) ≤ 65507))) then
  some 0
 else
  some 71
def udp_Check.f (a0 : api_Udp) : Option (Int) :=
 (udp_Check_1.f a0.Src).bind fun r2 =>
 bif r2 then
  (udp_Check_1.f a0.Dst).bind fun r5 =>
  udp_Check.k1 a0 r5
 else
  udp_Check.k1 a0 false
theorem udp_Check_calls (a0 : api_Udp) (r : Int) (h : udp_Check.f a0 = some r) : Pure Tryz.prog Glob 356 #[api_Udp.v a0] (.int .i64 r) := by
 intro w Z hS
 refine callsS (args := [api_Udp.v a0]) (L := [(0, api_Udp.v a0)]) (N := 20) Tryz.func356 hS ?_
 have hM := h
 clear h hS
 unfold udp_Check.f at hM
 refine WP.seq ?_
 refine WP.rh [] (fun b1 => [(1, .pointer (some ⟨b1, 0, none⟩)), (2, .int .i64 0)]) (fun b1 => []) (fun b1 => [(b1, api_Udp.o a0)]) (fun b1 => ?_)
 refine WP.seq ?_
 refine WP.rn [] [(3, .func (.func 372) #[] #[])] ?_
 refine WP.seq (WP.seq (WP.region ?_))
 refine WL.rn 3 [0] [(4, .func (.func 372) #[] #[]), (6, .int .i64 a0.Src)] ?_
 obtain ⟨r2, h3, hM⟩ := bind_some hM
 refine WL.callP [] [] (udp_Check_1_calls a0.Src _ h3) (fun _ h => h) (by kernel_rfl) (by kernel_rfl) rfl ?_
 refine WL.rn 1 [] [(8, .bool r2)] ?_
 refine WL.join (σ := Bool) 5 (fun st => udp_Check.k1 a0 st = some r) (fun st => [(1, .pointer (some ⟨b1, 0, none⟩)), (2, .int .i64 0), (13, .bool st)]) (fun st => Sat w Z [(b1, api_Udp.o a0)] [] Glob) (fun st hM => ?_) (fun K1 => ?_)
 ·
  obtain ⟨x7, rfl⟩ : ∃ y, y = st := ⟨st, rfl⟩
  replace hM : udp_Check.k1 a0 x7 = some r := hM
  unfold udp_Check.k1 at hM
  try dsimp only
  refine WL.rn 1 [] [(14, .bool x7)] ?_
  refine WL.bo 14 x7 5 [0] [] (fun b' => [(19, .bool (b' && (decide ((a0.Body.size : Int) ≤ 65507))))]) ?_
  refine WP.done (WP.kp [false] ?_)
  refine WP.cond (x7 && (decide ((a0.Body.size : Int) ≤ 65507))) rfl rfl (fun c8 => ?_) (fun c8 => ?_)
  ·replace hM := cond_t hM c8
   refine WP.seq (WP.rn [] [(2, .int .i64 0)] ?_)
   obtain rfl := Option.some.inj hM
   exact WP.retQ [] []
  ·replace hM := cond_f hM c8
   refine WP.skip (WP.seq (WP.rn [] [(2, .int .i64 71)] ?_))
   obtain rfl := Option.some.inj hM
   exact WP.retQ [] []
 ·
  refine WL.sp 8 r2 (fun c4 => ?_) (fun c4 => ?_)
  ·replace hM := cond_t hM c4
   refine WL.rn 3 [0] [(9, .func (.func 372) #[] #[]), (11, .int .i64 a0.Dst)] ?_
   obtain ⟨r5, h6, hM⟩ := bind_some hM
   refine WL.callP [] [] (udp_Check_1_calls a0.Dst _ h6) (fun _ h => h) (by kernel_rfl) (by kernel_rfl) rfl ?_
   refine WL.rn 1 [] [(13, .bool r5)] ?_
   exact WL.sub [1, 2, 13] (by kernel_rfl) (WL.pick [0] (by kernel_rfl) (by kernel_rfl) (K1 r5 hM))
  ·replace hM := cond_f hM c4
   refine WL.rn 5 [] [(13, .bool false)] ?_
   exact WL.sub [1, 2, 13] (by kernel_rfl) (WL.pick [0] (by kernel_rfl) (by kernel_rfl) (K1 false hM))
def udp_word.f (k : Nat) (a0 : Int) : Option (ByteArray) :=
 (octets_Put.f k (u64 a0) 2).bind fun (r1, r2) =>
 some r1
theorem udp_word_calls (k : Nat) (a0 : Int) (r : ByteArray) (h : udp_word.f k a0 = some r) : Pure Tryz.prog Glob 357 #[.int .i64 a0] (.string r) := by
 intro w Z hS
 refine callsS (args := [.int .i64 a0]) (L := [(0, .int .i64 a0)]) (N := 12) Tryz.func357 hS ?_
 have hM := h
 clear h hS
 unfold udp_word.f at hM
 refine WP.seq ?_
 refine WP.rn [] [(2, .string (⟨#[]⟩ : ByteArray))] ?_
 refine WP.seq (WP.region (WL.rn 2 [] [(7, .int .u64 (u64 a0))] ?_))
 obtain ⟨⟨r1, r2⟩, h3, hM⟩ := bind_some hM
 dsimp only at hM
 refine WL.callP [] [] (octets_Put_calls k (u64 a0) 2 _ h3) (fun _ h => h) (by kernel_rfl) (by kernel_rfl) rfl ?_
 refine WL.rn 5 [] [(3, .string r1)] ?_
 refine WP.done (WP.seq (WP.rn [] [(2, .string r1)] ?_))
 obtain rfl := Option.some.inj hM
 exact WP.retQ [] []
def csum_Head.f (k : Nat) (a0 : Int) (a1 : Int) (a2 : Int) (a3 : Int) : Option (ByteArray) :=
 (octets_Put.f k (u64 a0) 4).bind fun (r1, r2) =>
 (octets_Put.f k (u64 a1) 4).bind fun (r4, r5) =>
 (octets_Put.f k (u64 (bAnd .i64 a3 65535)) 2).bind fun (r7, r8) =>
 (catS r1 r4).bind fun t10 =>
 (catS t10 (ByteArray.push (ByteArray.push ByteArray.empty (UInt8.ofNat (Int.toNat 0))) (UInt8.ofNat (Int.toNat (u8 a2))))).bind fun t13 =>
 (catS t13 r7).bind fun t15 =>
 some t15
theorem csum_Head_calls (k : Nat) (a0 : Int) (a1 : Int) (a2 : Int) (a3 : Int) (r : ByteArray) (h : csum_Head.f k a0 a1 a2 a3 = some r) : Pure Tryz.prog Glob 340 #[.int .u32 a0, .int .u32 a1, .int .i64 a2, .int .i64 a3] (.string r) := by
 intro w Z hS
 refine callsS (args := [.int .u32 a0, .int .u32 a1, .int .i64 a2, .int .i64 a3]) (L := [(0, .int .u32 a0), (1, .int .u32 a1), (2, .int .i64 a2), (3, .int .i64 a3)]) (N := 44) Tryz.func340 hS ?_
 have hM := h
 clear h hS
 unfold csum_Head.f at hM
 refine WP.seq ?_
 refine WP.rn [] [(8, .string (⟨#[]⟩ : ByteArray))] ?_
 refine WP.seq (WP.region (WL.rn 2 [] [(17, .int .u64 (u64 a0))] ?_))
 obtain ⟨⟨r1, r2⟩, h3, hM⟩ := bind_some hM
 dsimp only at hM
 refine WL.callP [] [] (octets_Put_calls k (u64 a0) 4 _ h3) (fun _ h => h) (by kernel_rfl) (by kernel_rfl) rfl ?_
 refine WL.rn 5 [] [(9, .string r1)] ?_
 refine WP.done (WP.seq (WP.region (WL.rn 2 [] [(23, .int .u64 (u64 a1))] ?_)))
 obtain ⟨⟨r4, r5⟩, h6, hM⟩ := bind_some hM
 dsimp only at hM
 refine WL.callP [] [] (octets_Put_calls k (u64 a1) 4 _ h6) (fun _ h => h) (by kernel_rfl) (by kernel_rfl) rfl ?_
 refine WL.rn 5 [] [(11, .string r4)] ?_
 refine WP.done (WP.seq (WP.region (WL.rn 3 [] [(30, .int .u64 (u64 (bAnd .i64 a3 65535)))] ?_)))
 obtain ⟨⟨r7, r8⟩, h9, hM⟩ := bind_some hM
 dsimp only at hM
 refine WL.callP [] [] (octets_Put_calls k (u64 (bAnd .i64 a3 65535)) 2 _ h9) (fun _ h => h) (by kernel_rfl) (by kernel_rfl) rfl ?_
 refine WL.rn 5 [] [(13, .string r7)] ?_
 refine WP.done (WP.seq (WP.region (WL.rn 2 [] [(34, .string r1), (35, .string r4)] ?_)))
 obtain ⟨t10, h11, hM⟩ := bind_some hM
 refine WL.val (fun _ => run_catS (a := r1) (b := r4) (by kernel_rfl) (by kernel_rfl) h11) (by kernel_rfl) (by kernel_rfl) rfl ?_
 refine WL.rh 4 [0, 0] (fun b12 => [(40, .string (ByteArray.push (ByteArray.push ByteArray.empty (UInt8.ofNat (Int.toNat 0))) (UInt8.ofNat (Int.toNat (u8 a2)))))]) (fun b12 => []) (fun b12 => [(b12, .cells #[.int .u8 0, .int .u8 (u8 a2)] 5 (0, 0))]) (fun b12 => ?_)
 obtain ⟨t13, h14, hM⟩ := bind_some hM
 refine WL.val (fun _ => run_catS (a := t10) (b := (ByteArray.push (ByteArray.push ByteArray.empty (UInt8.ofNat (Int.toNat 0))) (UInt8.ofNat (Int.toNat (u8 a2))))) (by kernel_rfl) (by kernel_rfl) h14) (by kernel_rfl) (by kernel_rfl) rfl ?_
 refine WL.rn 1 [] [(42, .string r7)] ?_
 obtain ⟨t15, h16, hM⟩ := bind_some hM
 refine WL.val (fun _ => run_catS (a := t13) (b := r7) (by kernel_rfl) (by kernel_rfl) h16) (by kernel_rfl) (by kernel_rfl) rfl ?_
 refine WL.rn 1 [] [(8, .string t15)] ?_
 refine WP.done (WP.kp [false] ?_)
 obtain rfl := Option.some.inj hM
 exact WP.retQ [] []
def strings_Join.ren : Go.Shelf.Ren where
 f := fun | 156 => 375 | 165 => 378 | 166 => 168 | 169 => 169 | 240 => 257 | 241 => 379 | 276 => 315 | 277 => 380 | n => n
 t := fun | 0 => 0 | 3 => 3 | 4 => 4 | 5 => 5 | 9 => 9 | 20 => 20 | 31 => 551 | 37 => 300 | 70 => 336 | 72 => 338 | 75 => 176 | 76 => 303 | 80 => 340 | 127 => 463 | 164 => 319 | n => n
 g := fun n => n
theorem strings_Join.lays : Go.Proofs.Lays.n156 Tryz.prog strings_Join.ren where
 mixed := by kernel_rfl
 f156 := by kernel_rfl
 f165 := by kernel_rfl
 f166 := by kernel_rfl
 f169 := by kernel_rfl
 f240 := by kernel_rfl
 f241 := by kernel_rfl
 f276 := by kernel_rfl
 f277 := by kernel_rfl
 t0 := by kernel_rfl
 a0 := (fun _ => by kernel_rfl)
 z0 := (fun _ => by kernel_rfl)
 v0 := (fun _ => by kernel_rfl)
 t3 := by kernel_rfl
 a3 := (fun _ => by kernel_rfl)
 z3 := (fun _ => by kernel_rfl)
 v3 := (fun _ => by kernel_rfl)
 t4 := by kernel_rfl
 a4 := (fun _ => by kernel_rfl)
 z4 := (fun _ => by kernel_rfl)
 v4 := (fun _ => by kernel_rfl)
 t9 := by kernel_rfl
 a9 := (fun _ => by kernel_rfl)
 z9 := (fun _ => by kernel_rfl)
 v9 := (fun _ => by kernel_rfl)
 t20 := by kernel_rfl
 a20 := (fun _ => by kernel_rfl)
 z20 := (fun _ => by kernel_rfl)
 v20 := (fun _ => by kernel_rfl)
 t31 := by kernel_rfl
 a31 := (fun _ => by kernel_rfl)
 z31 := (fun _ => by kernel_rfl)
 v31 := (fun _ => by kernel_rfl)
 t37 := by kernel_rfl
 a37 := (fun _ => by kernel_rfl)
 z37 := (fun _ => by kernel_rfl)
 v37 := (fun _ => by kernel_rfl)
 t70 := by kernel_rfl
 a70 := (fun _ => by kernel_rfl)
 z70 := (fun _ => by kernel_rfl)
 v70 := (fun _ => by kernel_rfl)
 t72 := by kernel_rfl
 a72 := (fun _ => by kernel_rfl)
 z72 := (fun _ => by kernel_rfl)
 v72 := (fun _ => by kernel_rfl)
 t75 := by kernel_rfl
 a75 := (fun _ => by kernel_rfl)
 z75 := (fun _ => by kernel_rfl)
 v75 := (fun _ => by kernel_rfl)
 t76 := by kernel_rfl
 a76 := (fun _ => by kernel_rfl)
 z76 := (fun _ => by kernel_rfl)
 v76 := (fun _ => by kernel_rfl)
 t127 := by kernel_rfl
 a127 := (fun _ => by kernel_rfl)
 z127 := (fun _ => by kernel_rfl)
 v127 := (fun _ => by kernel_rfl)
 t164 := by kernel_rfl
 a164 := (fun _ => by kernel_rfl)
 z164 := (fun _ => by kernel_rfl)
 v164 := (fun _ => by kernel_rfl)
theorem strings_Join.extra : Go.Proofs.Builder.Extra Tryz.prog strings_Join.ren where
 sizeBuilder := by kernel_rfl
 liesBuilder := by kernel_rfl
 t5 := by kernel_rfl
 a5 := fun _ => by kernel_rfl
 z5 := fun _ => by kernel_rfl
 v5 := fun _ => by kernel_rfl
 infoByte := by kernel_rfl
 cellsByte := by kernel_rfl
 sizeByte := by kernel_rfl
 neB5 := by decide
def strings_Join.f (a0 : List ByteArray) (a1 : ByteArray) : Option ByteArray := if a0.length ≤ 140737488355328 ∧ (Lib.join (a0.map (·.data.toList)) a1.data.toList).length ≤ 140737488355328 then some ⟨(Lib.join (a0.map (·.data.toList)) a1.data.toList).toArray⟩ else none
theorem strings_Join_calls (A00 : SkL Unit) (a0 : List ByteArray) (a1 : ByteArray) (r : ByteArray) (h : strings_Join.f a0 a1 = some r) : Pure Tryz.prog ([Row 1 (pl encS) noK A00 a0] ++ Glob) 375 #[slcV A00 a0.length, .string a1] (.string r) := by
 intro w Z hS
 unfold strings_Join.f at h
 split at h
 ·rename_i hb
  obtain rfl := Option.some.inj h
  have hR := hS.fact (φ := Row 1 (pl encS) noK A00 a0) (fact_at 0 rfl)
  have hback : ∀ w' : World, Go.RowKit.Below w.heap.size w w' → Sat w Z [] [] ([Row 1 (pl encS) noK A00 a0] ++ Glob) w' := fun w' hb' => hS.away hb'.os hb'.tape hb'.output hb'.size hb'.block
  cases hA : A00.a with
  | none =>
   obtain ⟨h1, h2⟩ := hR.nil hA
   subst h1
   have hv : slcV A00 ([] : List ByteArray).length = .slice A00.z 0 0 := by simp [slcV, SkL.addr, hA, h2]
   rw [hv]
   refine (Any.strings_Join_none strings_Join.lays strings_Join.extra A00.z 0 a1 w).mono fun e w' ⟨he, hw⟩ => ⟨he, ?_⟩
   subst hw
   exact hS
  | some q =>
   obtain ⟨b, o⟩ := q
   have hv : slcV A00 a0.length = .slice (some ⟨b, o, none⟩) a0.length A00.c := by simp [slcV, SkL.addr, hA]
   rw [hv]
   have hcell : ∀ (j : Nat) x, a0[j]? = some x → w.cell? ⟨b, o + j, none⟩ = some (.string x) := fun j x hx => by
    have := hR.cells b o hA j x hx 0 (.string x) rfl
    rwa [Nat.mul_one, Nat.add_zero] at this
   cases hl : a0 with
   | nil =>
    subst hl
    refine (Any.strings_Join_none strings_Join.lays strings_Join.extra _ _ a1 w).mono fun e w' ⟨he, hw⟩ => ⟨he, ?_⟩
    subst hw
    exact hS
   | cons x0 xr =>
    have hlt : b < w.heap.size := by
     have := hcell 0 x0 (by rw [hl]; rfl)
     exact World.block_lt_of_cell? w _ this
    rw [← hl]
    exact (Any.strings_Join strings_Join.lays strings_Join.extra b o A00.c a0 a1 w hcell hlt hb.1 hR.le hb.2).mono fun e w' ⟨he, hw⟩ => ⟨he, hback w' hw⟩
 ·cases h
def csum_fold.l1 : Nat → Int → Option (Int)
 | 0, _ => none
 | n + 1, x1 =>
  bif decide (x1 > 65535) then
   csum_fold.l1 n (i64 ((bAnd .i64 x1 65535) + (Int.fdiv x1 65536)))
  else
   some x1
def csum_fold.f (k : Nat) (a0 : Int) : Option (Int) :=
 csum_fold.l1 k a0
theorem csum_fold_calls (k : Nat) (a0 : Int) (r : Int) (h : csum_fold.f k a0 = some r) : Pure Tryz.prog Glob 376 #[.int .i64 a0] (.int .i64 r) := by
 intro w Z hS
 refine callsS (args := [.int .i64 a0]) (L := [(0, .int .i64 a0)]) (N := 11) Tryz.func376 hS ?_
 have hM := h
 clear h hS
 unfold csum_fold.f at hM
 refine WP.seq (WP.rn [] [(2, .int .i64 0)] ?_)
 refine WP.seq (WP.block (WP.sub [0, 2] (L' := [(0, .int .i64 a0), (2, .int .i64 0)]) (by kernel_rfl) ?_))
 refine WP.loop (σ := Int) (fun n st => csum_fold.l1 n st) r (fun st => [(0, .int .i64 st), (2, .int .i64 0)]) (fun st => Sat w Z [] [] Glob) (st := a0) (fun n st hM => ?_) hM
 rcases n with _ | n
 ·exact nomatch (show (none : Option _) = some r from hM)
 obtain ⟨x1, rfl⟩ : ∃ y, y = st := ⟨st, rfl⟩
 replace hM : csum_fold.l1 (n + 1) x1 = some r := hM
 rw [csum_fold.l1] at hM
 try dsimp only
 refine WP.seq (WP.seq (WP.rn [] [(3, .int .i64 x1), (4, .bool (decide (x1 > 65535)))] ?_))
 refine WP.cond (decide (x1 > 65535)) rfl rfl (fun c2 => ?_) (fun c2 => ?_)
 ·replace hM := cond_t hM c2
  refine WP.skip (WP.block (WP.rn [] [(0, .int .i64 (i64 ((bAnd .i64 x1 65535) + (Int.fdiv x1 65536)))), (5, .int .i64 x1), (6, .int .i64 (bAnd .i64 x1 65535)), (7, .int .i64 x1), (8, .int .i64 (Int.fdiv x1 65536)), (9, .int .i64 (i64 ((bAnd .i64 x1 65535) + (Int.fdiv x1 65536))))] ?_))
  refine WP.leave ?_
  exact WP.again' [0, 2] (i64 ((bAnd .i64 x1 65535) + (Int.fdiv x1 65536))) hM (by kernel_rfl) (fun _ h => h.pick [] (by kernel_rfl))
 ·replace hM := cond_f hM c2
  refine WP.exit rfl (WP.seq (WP.rn [] [(2, .int .i64 x1)] ?_))
  obtain rfl := Option.some.inj hM
  exact WP.retQ [] []
def csum_total.l1 (x6 : ByteArray) (k : Nat) : Nat → Int → Int → Option (Int)
 | 0, _, _ => none
 | n + 1, x7, x8 =>
  bif decide (x8 < (x6.size : Int)) then
   (idxS x6 x8).bind fun t10 =>
   (idxS x6 (i64 (x8 + 1))).bind fun t12 =>
   (csum_fold.f k (i64 ((i64 (x7 + (i64 ((i64 t10) * 256)))) + (i64 t12)))).bind fun r14 =>
   csum_total.l1 x6 k n r14 (i64 (x8 + 2))
  else
   some x7
def csum_total.k2 (k : Nat) (x6 : ByteArray) : Option (Int) :=
 csum_total.l1 x6 k k 0 0
def csum_total.f (k : Nat) (a0 : (List ByteArray)) : Option (Int) :=
 (strings_Join.f a0 (⟨#[]⟩ : ByteArray)).bind fun r1 =>
 bif ((Int.tmod (r1.size : Int) 2) == 1) then
  (catS r1 (⟨#[0]⟩ : ByteArray)).bind fun t4 =>
  csum_total.k2 k t4
 else
  csum_total.k2 k r1
theorem csum_total_calls (k : Nat) (A00 : SkL Unit) (a0 : (List ByteArray)) (r : Int) (h : csum_total.f k a0 = some r) : Pure Tryz.prog ([Row 1 (pl encS) noK A00 a0] ++ Glob) 364 #[slcV A00 a0.length] (.int .i64 r) := by
 intro w Z hS
 refine callsS (args := [slcV A00 a0.length]) (L := [(0, slcV A00 a0.length)]) (N := 35) Tryz.func364 hS ?_
 have hM := h
 clear h hS
 unfold csum_total.f at hM
 refine WP.seq (WP.rn [] [(2, .int .i64 0)] ?_)
 refine WP.seq (WP.region (WL.rn 1 [] [(6, slcV A00 a0.length)] ?_))
 obtain ⟨r1, h2, hM⟩ := bind_some hM
 refine WL.callP [] [] (strings_Join_calls A00 a0 (⟨#[]⟩ : ByteArray) _ h2) (sub_pick [0] (by kernel_rfl)) (by kernel_rfl) (by kernel_rfl) rfl ?_
 refine WL.rn 1 [] [(3, .string r1)] ?_
 refine WP.done ?_
 refine WP.seqJoin (σ := ByteArray) (fun st => csum_total.k2 k st = some r) (fun st => [(2, .int .i64 0), (3, .string st)]) (fun st => Sat w Z [] [] ([Row 1 (pl encS) noK A00 a0] ++ Glob)) (fun st hM => ?_) (fun K2 => ?_)
 ·
  obtain ⟨x6, rfl⟩ : ∃ y, y = st := ⟨st, rfl⟩
  replace hM : csum_total.k2 k x6 = some r := hM
  unfold csum_total.k2 at hM
  try dsimp only
  refine WP.seq (WP.rn [] [(4, .int .i64 0)] ?_)
  refine WP.seq (WP.seq (WP.rn [] [(5, .int .i64 0)] ?_))
  refine WP.block (WP.sub [2, 3, 4, 5] (L' := [(2, .int .i64 0), (3, .string x6), (4, .int .i64 0), (5, .int .i64 0)]) (by kernel_rfl) ?_)
  refine WP.lessF [0] (F' := [Row 1 (pl encS) noK A00 a0]) (by kernel_rfl) ?_
  refine WP.loop (σ := Int × Int) (fun n st => csum_total.l1 x6 k n st.1 st.2) r (fun st => [(2, .int .i64 0), (3, .string x6), (4, .int .i64 st.1), (5, .int .i64 st.2)]) (fun st => Sat w Z [] [] ([Row 1 (pl encS) noK A00 a0] ++ Glob)) (st := (0, 0)) (fun n st hM => ?_) hM
  rcases n with _ | n
  ·exact nomatch (show (none : Option _) = some r from hM)
  obtain ⟨x7, x8⟩ := st
  replace hM : csum_total.l1 x6 k (n + 1) x7 x8 = some r := hM
  rw [csum_total.l1] at hM
  try dsimp only
  refine WP.seq (WP.seq (WP.rn [] [(14, .int .i64 x8), (15, .string x6), (16, .int .i64 (x6.size : Int)), (17, .bool (decide (x8 < (x6.size : Int))))] ?_))
  refine WP.cond (decide (x8 < (x6.size : Int))) rfl rfl (fun c9 => ?_) (fun c9 => ?_)
  ·replace hM := cond_t hM c9
   refine WP.skip (WP.seq (WP.block (WP.quiet (by kernel_rfl) (by kernel_rfl) ?_)))
   refine QL.rn 3 [] [(20, .int .i64 x7), (21, .string x6), (22, .int .i64 x8)] ?_
   obtain ⟨t10, h11, hM⟩ := bind_some hM
   refine QL.val (fun _ => run_idxS (s := x6) (k := .i64) (i := x8) (by kernel_rfl) (by kernel_rfl) (by kernel_rfl) h11) (by kernel_rfl) (by kernel_rfl) rfl ?_
   refine QL.rn 6 [] [(24, .int .i64 (i64 t10)), (25, .int .i64 (i64 ((i64 t10) * 256))), (26, .int .i64 (i64 (x7 + (i64 ((i64 t10) * 256))))), (27, .string x6), (28, .int .i64 x8), (29, .int .i64 (i64 (x8 + 1)))] ?_
   obtain ⟨t12, h13, hM⟩ := bind_some hM
   refine QL.val (fun _ => run_idxS (s := x6) (k := .i64) (i := i64 (x8 + 1)) (by kernel_rfl) (by kernel_rfl) (by kernel_rfl) h13) (by kernel_rfl) (by kernel_rfl) rfl ?_
   refine QL.rn 2 [] [(31, .int .i64 (i64 t12)), (32, .int .i64 (i64 ((i64 (x7 + (i64 ((i64 t10) * 256)))) + (i64 t12))))] ?_
   obtain ⟨r14, h15, hM⟩ := bind_some hM
   refine QL.callP [] [] (csum_fold_calls k (i64 ((i64 (x7 + (i64 ((i64 t10) * 256)))) + (i64 t12))) _ h15) (fun _ h => List.mem_append_right _ h) (by kernel_rfl) (by kernel_rfl) rfl ?_
   refine QL.rn 1 [] [(4, .int .i64 r14)] ?_
   refine QL.done ?_
   refine WP.leave (WP.rn [] [(5, .int .i64 (i64 (x8 + 2))), (18, .int .i64 x8), (19, .int .i64 (i64 (x8 + 2)))] ?_)
   exact WP.again' [2, 3, 4, 5] (r14, i64 (x8 + 2)) hM (by kernel_rfl) (fun _ h => (h.pick [] (by kernel_rfl)).lessF [0] (by kernel_rfl))
  ·replace hM := cond_f hM c9
   refine WP.exit rfl (WP.seq (WP.rn [] [(2, .int .i64 x7)] ?_))
   obtain rfl := Option.some.inj hM
   exact WP.retF [] [] [0]
 ·
  refine WP.seq (WP.rn [] [(11, .bool ((Int.tmod (r1.size : Int) 2) == 1))] ?_)
  refine WP.cond ((Int.tmod (r1.size : Int) 2) == 1) rfl rfl (fun c3 => ?_) (fun c3 => ?_)
  ·replace hM := cond_t hM c3
   refine WP.region (WL.rn 1 [] [(12, .string r1)] ?_)
   obtain ⟨t4, h5, hM⟩ := bind_some hM
   refine WL.val (fun _ => run_catS (a := r1) (b := (⟨#[0]⟩ : ByteArray)) (by kernel_rfl) (by kernel_rfl) h5) (by kernel_rfl) (by kernel_rfl) rfl ?_
   refine WL.rn 1 [] [(3, .string t4)] ?_
   refine WP.done ?_
   exact WP.sub [2, 3] (by kernel_rfl) (WP.pick [] (by kernel_rfl) (by kernel_rfl) (WP.lessF [0] (by kernel_rfl) (K2 t4 hM)))
  ·replace hM := cond_f hM c3
   refine WP.skip ?_
   exact WP.sub [2, 3] (by kernel_rfl) (WP.pick [] (by kernel_rfl) (by kernel_rfl) (WP.lessF [0] (by kernel_rfl) (K2 r1 hM)))
def csum_Of.f (k : Nat) (a0 : (List ByteArray)) : Option (Int) :=
 (csum_total.f k a0).bind fun r1 =>
 some (i64 (65535 - r1))
theorem csum_Of_calls (k : Nat) (A00 : SkL Unit) (a0 : (List ByteArray)) (r : Int) (h : csum_Of.f k a0 = some r) : Pure Tryz.prog ([Row 1 (pl encS) noK A00 a0] ++ Glob) 358 #[slcV A00 a0.length] (.int .i64 r) := by
 intro w Z hS
 refine callsS (args := [slcV A00 a0.length]) (L := [(0, slcV A00 a0.length)]) (N := 6) Tryz.func358 hS ?_
 have hM := h
 clear h hS
 unfold csum_Of.f at hM
 refine WP.seq (WP.rn [] [(2, .int .i64 0)] ?_)
 refine WP.seq (WP.region (WL.rn 1 [] [(3, slcV A00 a0.length)] ?_))
 obtain ⟨r1, h2, hM⟩ := bind_some hM
 refine WL.callP [] [] (csum_total_calls k A00 a0 _ h2) (sub_pick [0] (by kernel_rfl)) (by kernel_rfl) (by kernel_rfl) rfl ?_
 refine WL.rn 2 [] [(2, .int .i64 (i64 (65535 - r1)))] ?_
 refine WP.done ?_
 obtain rfl := Option.some.inj hM
 exact WP.retF [] [] [0]
def udp_Build.k1 (k : Nat) (t13 : ByteArray) (a2 : api_Udp) (x23 : Int) : Option (ByteArray × Int) :=
 (udp_word.f k x23).bind fun r24 =>
 (catS t13 r24).bind fun t26 =>
 (catS t26 a2.Body).bind fun t28 =>
 some (t28, 0)
def udp_Build.f (k : Nat) (a0 : Int) (a1 : Int) (a2 : api_Udp) : Option (ByteArray × Int) :=
 (udp_Check.f a2).bind fun r2 =>
 bif (r2 != 0) then
  some ((⟨#[]⟩ : ByteArray), r2)
 else
  (udp_word.f k a2.Src).bind fun r5 =>
  (udp_word.f k a2.Dst).bind fun r7 =>
  (catS r5 r7).bind fun t9 =>
  (udp_word.f k (i64 (8 + (a2.Body.size : Int)))).bind fun r11 =>
  (catS t9 r11).bind fun t13 =>
  bif !a2.NoSum then
   (csum_Head.f k a0 a1 17 (i64 (8 + (a2.Body.size : Int)))).bind fun r17 =>
   (csum_Of.f k ([r17, t13, a2.Body] : List ByteArray)).bind fun r20 =>
   bif (r20 == 0) then
    udp_Build.k1 k t13 a2 65535
   else
    udp_Build.k1 k t13 a2 r20
  else
   udp_Build.k1 k t13 a2 0
theorem udp_Build_calls (k : Nat) (a0 : Int) (a1 : Int) (a2 : api_Udp) (r : ByteArray × Int) (h : udp_Build.f k a0 a1 a2 = some r) : Pure Tryz.prog Glob 332 #[.int .u32 a0, .int .u32 a1, api_Udp.v a2] (.tuple #[.string r.1, .int .i64 r.2]) := by
 intro w Z hS
 refine callsS (args := [.int .u32 a0, .int .u32 a1, api_Udp.v a2]) (L := [(0, .int .u32 a0), (1, .int .u32 a1), (2, api_Udp.v a2)]) (N := 52) Tryz.func332 hS ?_
 have hM := h
 clear h hS
 unfold udp_Build.f at hM
 refine WP.less (Φ' := [] ++ Glob) (fun _ h => h) ?_
 refine WP.seq ?_
 refine WP.rh [] (fun b1 => [(5, .pointer (some ⟨b1, 0, none⟩)), (6, .string (⟨#[]⟩ : ByteArray)), (7, .int .i64 0)]) (fun b1 => []) (fun b1 => [(b1, api_Udp.o a2)]) (fun b1 => ?_)
 refine WP.seq (WP.seq (WP.region (WL.rn 1 [0, 0, 0, 0] [(12, api_Udp.v a2)] ?_)))
 obtain ⟨r2, h3, hM⟩ := bind_some hM
 refine WL.callP [] [] (udp_Check_calls a2 _ h3) (fun _ h => List.mem_append_right _ h) (by kernel_rfl) (by kernel_rfl) rfl ?_
 refine WL.rn 1 [] [(8, .int .i64 r2)] ?_
 refine WP.done (WP.seq (WP.rn [] [(15, .bool (r2 != 0))] ?_))
 refine WP.cond (r2 != 0) rfl rfl (fun c4 => ?_) (fun c4 => ?_)
 ·replace hM := cond_t hM c4
  refine WP.seq ?_
  refine WP.rn [] [(6, .string (⟨#[]⟩ : ByteArray)), (7, .int .i64 r2)] ?_
  obtain rfl := Option.some.inj hM
  exact WP.ret [] [] (.tuple #[.string (⟨#[]⟩ : ByteArray), .int .i64 r2]) (by kernel_rfl) (fun w' hw => ⟨rfl, (hw.pick [] rfl).less (fun _ h => List.mem_append_right _ h)⟩)
 ·replace hM := cond_f hM c4
  refine WP.skip (WP.seq (WP.rn [0] [(9, .int .i64 (i64 (8 + (a2.Body.size : Int))))] ?_))
  refine WP.seq (WP.quiet (by kernel_rfl) (by kernel_rfl) ?_)
  refine QL.rn 2 [0] [(22, .int .i64 a2.Src)] ?_
  obtain ⟨r5, h6, hM⟩ := bind_some hM
  refine QL.callP [] [] (udp_word_calls k a2.Src _ h6) (fun _ h => List.mem_append_right _ h) (by kernel_rfl) (by kernel_rfl) rfl ?_
  refine QL.rn 2 [0] [(25, .int .i64 a2.Dst)] ?_
  obtain ⟨r7, h8, hM⟩ := bind_some hM
  refine QL.callP [] [] (udp_word_calls k a2.Dst _ h8) (fun _ h => List.mem_append_right _ h) (by kernel_rfl) (by kernel_rfl) rfl ?_
  obtain ⟨t9, h10, hM⟩ := bind_some hM
  refine QL.val (fun _ => run_catS (a := r5) (b := r7) (by kernel_rfl) (by kernel_rfl) h10) (by kernel_rfl) (by kernel_rfl) rfl ?_
  refine QL.rn 1 [] [(28, .int .i64 (i64 (8 + (a2.Body.size : Int))))] ?_
  obtain ⟨r11, h12, hM⟩ := bind_some hM
  refine QL.callP [] [] (udp_word_calls k (i64 (8 + (a2.Body.size : Int))) _ h12) (fun _ h => List.mem_append_right _ h) (by kernel_rfl) (by kernel_rfl) rfl ?_
  obtain ⟨t13, h14, hM⟩ := bind_some hM
  refine QL.val (fun _ => run_catS (a := t9) (b := r11) (by kernel_rfl) (by kernel_rfl) h14) (by kernel_rfl) (by kernel_rfl) rfl ?_
  refine QL.rn 1 [] [(10, .string t13)] ?_
  refine QL.done ?_
  refine WP.seq (WP.rn [] [(11, .int .i64 0)] ?_)
  refine WP.seqJoin (σ := Int) (fun st => udp_Build.k1 k t13 a2 st = some r) (fun st => [(5, .pointer (some ⟨b1, 0, none⟩)), (6, .string (⟨#[]⟩ : ByteArray)), (7, .int .i64 0), (10, .string t13), (11, .int .i64 st)]) (fun st => Sat w Z [(b1, api_Udp.o a2)] [] ([] ++ Glob)) (fun st hM => ?_) (fun K1 => ?_)
  ·
   obtain ⟨x23, rfl⟩ : ∃ y, y = st := ⟨st, rfl⟩
   replace hM : udp_Build.k1 k t13 a2 x23 = some r := hM
   unfold udp_Build.k1 at hM
   try dsimp only
   refine WP.seq (WP.quiet (by kernel_rfl) (by kernel_rfl) ?_)
   refine QL.rn 2 [] [(45, .string t13), (46, .int .i64 x23)] ?_
   obtain ⟨r24, h25, hM⟩ := bind_some hM
   refine QL.callP [] [] (udp_word_calls k x23 _ h25) (fun _ h => List.mem_append_right _ h) (by kernel_rfl) (by kernel_rfl) rfl ?_
   obtain ⟨t26, h27, hM⟩ := bind_some hM
   refine QL.val (fun _ => run_catS (a := t13) (b := r24) (by kernel_rfl) (by kernel_rfl) h27) (by kernel_rfl) (by kernel_rfl) rfl ?_
   refine QL.rn 2 [0] [(50, .string a2.Body)] ?_
   obtain ⟨t28, h29, hM⟩ := bind_some hM
   refine QL.val (fun _ => run_catS (a := t26) (b := a2.Body) (by kernel_rfl) (by kernel_rfl) h29) (by kernel_rfl) (by kernel_rfl) rfl ?_
   refine QL.rn 2 [] [(6, .string t28), (7, .int .i64 0)] ?_
   refine QL.done ?_
   refine WP.kp [false] ?_
   obtain rfl := Option.some.inj hM
   exact WP.ret [] [] (.tuple #[.string t28, .int .i64 0]) (by kernel_rfl) (fun w' hw => ⟨rfl, (hw.pick [] rfl).less (fun _ h => List.mem_append_right _ h)⟩)
  ·
   refine WP.seq (WP.rn [0] [(33, .bool (!a2.NoSum))] ?_)
   refine WP.cond (!a2.NoSum) rfl rfl (fun c15 => ?_) (fun c15 => ?_)
   ·replace hM := cond_t hM c15
    refine WP.seq ?_
    obtain ⟨r17, h18, hM⟩ := bind_some hM
    refine WP.sub [0, 1, 5, 6, 7, 9, 10, 11] (L' := [(0, .int .u32 a0), (1, .int .u32 a1), (5, .pointer (some ⟨b1, 0, none⟩)), (6, .string (⟨#[]⟩ : ByteArray)), (7, .int .i64 0), (9, .int .i64 (i64 (8 + (a2.Body.size : Int)))), (10, .string t13), (11, .int .i64 0)]) (by kernel_rfl) ?_
    refine WP.mixed (X := Unit) 7 [.val (.int .u32 a0), .val (.int .u32 a1), .val (.int .i64 (i64 (8 + (a2.Body.size : Int)))), .val (.string r17), .val (.string t13), .val (.pointer (some ⟨b1, 3, none⟩)), .val (.string a2.Body)] [(b1, api_Udp.o a2)] [] (by kernel_rfl) (by kernel_rfl) (by kernel_rfl) (by kernel_rfl) (Heads.val (fun tt Ψ => OpV.run [] [] (by kernel_rfl) (fun _ => by kernel_rfl)) (Heads.val (fun tt Ψ => OpV.run [] [] (by kernel_rfl) (fun _ => by kernel_rfl)) (Heads.val (fun tt Ψ => OpV.run [] [] (by kernel_rfl) (fun _ => by kernel_rfl)) (Heads.val (fun tt Ψ => OpV.callF [] [] (fun _ h => (List.mem_append_right _ (List.mem_append_right _ h))) (csum_Head_calls k a0 a1 17 (i64 (8 + (a2.Body.size : Int))) _ h18)  (fun _ => by kernel_rfl)) (Heads.val (fun tt Ψ => OpV.run [] [] (by kernel_rfl) (fun _ => by kernel_rfl)) (Heads.val (fun tt Ψ => OpV.run [] [] (by kernel_rfl) (fun _ => by kernel_rfl)) (Heads.val (fun tt Ψ => OpV.run [0] [b1] (by kernel_rfl) (fun _ => by kernel_rfl)) Heads.nil))))))) (fun s16 tt => [(34, .int .u32 a0), (35, .int .u32 a1), (36, .int .i64 (i64 (8 + (a2.Body.size : Int)))), (37, .string r17), (38, .string t13), (39, .pointer (some ⟨b1, 3, none⟩)), (40, .string a2.Body), (0, .int .u32 a0), (1, .int .u32 a1), (5, .pointer (some ⟨b1, 0, none⟩)), (6, .string (⟨#[]⟩ : ByteArray)), (7, .int .i64 0), (9, .int .i64 (i64 (8 + (a2.Body.size : Int)))), (10, .string t13), (11, .int .i64 0)]) (fun s16 tt => [(b1, api_Udp.o a2)]) (fun tt => ([] ++ []) ++ Glob) (fun _ _ => by kernel_rfl) (fun _ _ => by kernel_rfl) (fun _ => by kernel_rfl) (fun s16 tt => ?_)
    refine WL.rh 1 [] (fun b19 => [(41, .slice (some ⟨b19, 0, none⟩) 3 3)]) (fun b19 => []) (fun b19 => [(b19, .cells #[.string r17, .string t13, .string a2.Body] 9 (0, 0))]) (fun b19 => ?_)
    refine WL.ice (H' := [(b1, api_Udp.o a2)]) (Row 1 (pl encS) noK (SkL.at b19 3 (fun _ => ())) ([r17, t13, a2.Body] : List ByteArray)) 1 (b := b19) (ob := .cells #[.string r17, .string t13, .string a2.Body] 9 (0, 0)) (by kernel_rfl) [] [] (by kernel_rfl) (fun w hb hψ => row_of_block hb (fun _ _ => rfl) ⟨[], by kernel_rfl⟩ (Nat.le_of_ble_eq_true rfl) (InK.no _ _)) (by kernel_rfl) ?_
    obtain ⟨r20, h21, hM⟩ := bind_some hM
    refine WL.callP [] [] (csum_Of_calls k (SkL.at b19 3 (fun _ => ())) ([r17, t13, a2.Body] : List ByteArray) _ h21) (sub_pick [0] (by kernel_rfl)) (by kernel_rfl) (by kernel_rfl) rfl ?_
    refine WL.rn 1 [] [(11, .int .i64 r20)] ?_
    refine WP.done (WP.seq (WP.rn [] [(44, .bool (r20 == 0))] ?_))
    refine WP.cond (r20 == 0) rfl rfl (fun c22 => ?_) (fun c22 => ?_)
    ·replace hM := cond_t hM c22
     refine WP.rn [] [(11, .int .i64 65535)] ?_
     exact WP.sub [5, 6, 7, 10, 11] (by kernel_rfl) (WP.pick [0] (by kernel_rfl) (by kernel_rfl) (WP.lessF [] (by kernel_rfl) (K1 65535 hM)))
    ·replace hM := cond_f hM c22
     refine WP.skip ?_
     exact WP.sub [5, 6, 7, 10, 11] (by kernel_rfl) (WP.pick [0] (by kernel_rfl) (by kernel_rfl) (WP.lessF [] (by kernel_rfl) (K1 r20 hM)))
   ·replace hM := cond_f hM c15
    refine WP.skip ?_
    exact WP.sub [5, 6, 7, 10, 11] (by kernel_rfl) (WP.pick [0] (by kernel_rfl) (by kernel_rfl) (WP.lessF [] (by kernel_rfl) (K1 0 hM)))
def inet_below.f (a0 : Int) (a1 : Int) : Option (Bool) :=
 some ((decide (a0 ≥ 0)) && (decide (a0 < a1)))
theorem inet_below_calls (a0 : Int) (a1 : Int) (r : Bool) (h : inet_below.f a0 a1 = some r) : Pure Tryz.prog Glob 373 #[.int .i64 a0, .int .i64 a1] (.bool r) := by
 intro w Z hS
 refine callsS (args := [.int .i64 a0, .int .i64 a1]) (L := [(0, .int .i64 a0), (1, .int .i64 a1)]) (N := 12) Tryz.func373 hS ?_
 have hM := h
 clear h hS
 unfold inet_below.f at hM
 refine WP.seq (WP.rn [] [(4, .bool false)] ?_)
 refine WP.seq (WP.region (WL.rn 3 [] [(7, .bool (decide (a0 ≥ 0)))] ?_))
 refine WL.bo 7 (decide (a0 ≥ 0)) 4 [] [] (fun b' => [(11, .bool (b' && (decide (a0 < a1))))]) ?_
 refine WL.rn 1 [] [(4, .bool ((decide (a0 ≥ 0)) && (decide (a0 < a1))))] ?_
 refine WP.done ?_
 obtain rfl := Option.some.inj hM
 exact WP.retQ [] []
def inet_Check.k1 (a0 : api_Ip) (x19 : Bool) : Option (Int) :=
 bif (x19 && (decide ((a0.Body.size : Int) ≤ 65515))) then
  some 0
 else
  some 61
def inet_Check.k2 (a0 : api_Ip) (x15 : Bool) : Option (Int) :=
 bif x15 then
  (inet_below.f a0.Off 8192).bind fun r17 =>
  inet_Check.k1 a0 r17
 else
  inet_Check.k1 a0 false
def inet_Check.k3 (a0 : api_Ip) (x11 : Bool) : Option (Int) :=
 bif x11 then
  (inet_below.f a0.Id 65536).bind fun r13 =>
  inet_Check.k2 a0 r13
 else
  inet_Check.k2 a0 false
def inet_Check.k4 (a0 : api_Ip) (x7 : Bool) : Option (Int) :=
 bif x7 then
  (inet_below.f a0.Proto 256).bind fun r9 =>
  inet_Check.k3 a0 r9
 else
  inet_Check.k3 a0 false
def inet_Check.f (a0 : api_Ip) : Option (Int) :=
 (inet_below.f a0.Tos 256).bind fun r2 =>
 bif r2 then
  (inet_below.f a0.Ttl 256).bind fun r5 =>
  inet_Check.k4 a0 r5
 else
  inet_Check.k4 a0 false
theorem inet_Check_calls (a0 : api_Ip) (r : Int) (h : inet_Check.f a0 = some r) : Pure Tryz.prog Glob 359 #[api_Ip.v a0] (.int .i64 r) := by
 intro w Z hS
 refine callsS (args := [api_Ip.v a0]) (L := [(0, api_Ip.v a0)]) (N := 32) Tryz.func359 hS ?_
 have hM := h
 clear h hS
 unfold inet_Check.f at hM
 refine WP.seq ?_
 refine WP.rh [] (fun b1 => [(1, .pointer (some ⟨b1, 0, none⟩)), (2, .int .i64 0)]) (fun b1 => []) (fun b1 => [(b1, api_Ip.o a0)]) (fun b1 => ?_)
 refine WP.seq (WP.seq (WP.region (WL.rn 2 [0] [(4, .int .i64 a0.Tos)] ?_)))
 obtain ⟨r2, h3, hM⟩ := bind_some hM
 refine WL.callP [] [] (inet_below_calls a0.Tos 256 _ h3) (fun _ h => h) (by kernel_rfl) (by kernel_rfl) rfl ?_
 refine WL.rn 1 [] [(6, .bool r2)] ?_
 refine WL.join (σ := Bool) 4 (fun st => inet_Check.k4 a0 st = some r) (fun st => [(1, .pointer (some ⟨b1, 0, none⟩)), (2, .int .i64 0), (10, .bool st)]) (fun st => Sat w Z [(b1, api_Ip.o a0)] [] Glob) (fun st hM => ?_) (fun K4 => ?_)
 ·
  obtain ⟨x7, rfl⟩ : ∃ y, y = st := ⟨st, rfl⟩
  replace hM : inet_Check.k4 a0 x7 = some r := hM
  unfold inet_Check.k4 at hM
  try dsimp only
  refine WL.rn 1 [] [(11, .bool x7)] ?_
  refine WL.join (σ := Bool) 4 (fun st => inet_Check.k3 a0 st = some r) (fun st => [(1, .pointer (some ⟨b1, 0, none⟩)), (2, .int .i64 0), (15, .bool st)]) (fun st => Sat w Z [(b1, api_Ip.o a0)] [] Glob) (fun st hM => ?_) (fun K3 => ?_)
  ·
   obtain ⟨x11, rfl⟩ : ∃ y, y = st := ⟨st, rfl⟩
   replace hM : inet_Check.k3 a0 x11 = some r := hM
   unfold inet_Check.k3 at hM
   try dsimp only
   refine WL.rn 1 [] [(16, .bool x11)] ?_
   refine WL.join (σ := Bool) 4 (fun st => inet_Check.k2 a0 st = some r) (fun st => [(1, .pointer (some ⟨b1, 0, none⟩)), (2, .int .i64 0), (20, .bool st)]) (fun st => Sat w Z [(b1, api_Ip.o a0)] [] Glob) (fun st hM => ?_) (fun K2 => ?_)
   ·
    obtain ⟨x15, rfl⟩ : ∃ y, y = st := ⟨st, rfl⟩
    replace hM : inet_Check.k2 a0 x15 = some r := hM
    unfold inet_Check.k2 at hM
    try dsimp only
    refine WL.rn 1 [] [(21, .bool x15)] ?_
    refine WL.join (σ := Bool) 4 (fun st => inet_Check.k1 a0 st = some r) (fun st => [(1, .pointer (some ⟨b1, 0, none⟩)), (2, .int .i64 0), (25, .bool st)]) (fun st => Sat w Z [(b1, api_Ip.o a0)] [] Glob) (fun st hM => ?_) (fun K1 => ?_)
    ·
     obtain ⟨x19, rfl⟩ : ∃ y, y = st := ⟨st, rfl⟩
     replace hM : inet_Check.k1 a0 x19 = some r := hM
     unfold inet_Check.k1 at hM
     try dsimp only
     refine WL.rn 1 [] [(26, .bool x19)] ?_
     refine WL.bo 26 x19 5 [0] [] (fun b' => [(31, .bool (b' && (decide ((a0.Body.size : Int) ≤ 65515))))]) ?_
     refine WP.done (WP.kp [false] ?_)
     refine WP.cond (x19 && (decide ((a0.Body.size : Int) ≤ 65515))) rfl rfl (fun c20 => ?_) (fun c20 => ?_)
     ·replace hM := cond_t hM c20
      refine WP.seq (WP.rn [] [(2, .int .i64 0)] ?_)
      obtain rfl := Option.some.inj hM
      exact WP.retQ [] []
     ·replace hM := cond_f hM c20
      refine WP.skip (WP.seq (WP.rn [] [(2, .int .i64 61)] ?_))
      obtain rfl := Option.some.inj hM
      exact WP.retQ [] []
    ·
     refine WL.sp 21 x15 (fun c16 => ?_) (fun c16 => ?_)
     ·replace hM := cond_t hM c16
      refine WL.rn 2 [0] [(23, .int .i64 a0.Off)] ?_
      obtain ⟨r17, h18, hM⟩ := bind_some hM
      refine WL.callP [] [] (inet_below_calls a0.Off 8192 _ h18) (fun _ h => h) (by kernel_rfl) (by kernel_rfl) rfl ?_
      refine WL.rn 1 [] [(25, .bool r17)] ?_
      exact WL.sub [1, 2, 25] (by kernel_rfl) (WL.pick [0] (by kernel_rfl) (by kernel_rfl) (K1 r17 hM))
     ·replace hM := cond_f hM c16
      refine WL.rn 4 [] [(25, .bool false)] ?_
      exact WL.sub [1, 2, 25] (by kernel_rfl) (WL.pick [0] (by kernel_rfl) (by kernel_rfl) (K1 false hM))
   ·
    refine WL.sp 16 x11 (fun c12 => ?_) (fun c12 => ?_)
    ·replace hM := cond_t hM c12
     refine WL.rn 2 [0] [(18, .int .i64 a0.Id)] ?_
     obtain ⟨r13, h14, hM⟩ := bind_some hM
     refine WL.callP [] [] (inet_below_calls a0.Id 65536 _ h14) (fun _ h => h) (by kernel_rfl) (by kernel_rfl) rfl ?_
     refine WL.rn 1 [] [(20, .bool r13)] ?_
     exact WL.sub [1, 2, 20] (by kernel_rfl) (WL.pick [0] (by kernel_rfl) (by kernel_rfl) (K2 r13 hM))
    ·replace hM := cond_f hM c12
     refine WL.rn 4 [] [(20, .bool false)] ?_
     exact WL.sub [1, 2, 20] (by kernel_rfl) (WL.pick [0] (by kernel_rfl) (by kernel_rfl) (K2 false hM))
  ·
   refine WL.sp 11 x7 (fun c8 => ?_) (fun c8 => ?_)
   ·replace hM := cond_t hM c8
    refine WL.rn 2 [0] [(13, .int .i64 a0.Proto)] ?_
    obtain ⟨r9, h10, hM⟩ := bind_some hM
    refine WL.callP [] [] (inet_below_calls a0.Proto 256 _ h10) (fun _ h => h) (by kernel_rfl) (by kernel_rfl) rfl ?_
    refine WL.rn 1 [] [(15, .bool r9)] ?_
    exact WL.sub [1, 2, 15] (by kernel_rfl) (WL.pick [0] (by kernel_rfl) (by kernel_rfl) (K3 r9 hM))
   ·replace hM := cond_f hM c8
    refine WL.rn 4 [] [(15, .bool false)] ?_
    exact WL.sub [1, 2, 15] (by kernel_rfl) (WL.pick [0] (by kernel_rfl) (by kernel_rfl) (K3 false hM))
 ·
  refine WL.sp 6 r2 (fun c4 => ?_) (fun c4 => ?_)
  ·replace hM := cond_t hM c4
   refine WL.rn 2 [0] [(8, .int .i64 a0.Ttl)] ?_
   obtain ⟨r5, h6, hM⟩ := bind_some hM
   refine WL.callP [] [] (inet_below_calls a0.Ttl 256 _ h6) (fun _ h => h) (by kernel_rfl) (by kernel_rfl) rfl ?_
   refine WL.rn 1 [] [(10, .bool r5)] ?_
   exact WL.sub [1, 2, 10] (by kernel_rfl) (WL.pick [0] (by kernel_rfl) (by kernel_rfl) (K4 r5 hM))
  ·replace hM := cond_f hM c4
   refine WL.rn 4 [] [(10, .bool false)] ?_
   exact WL.sub [1, 2, 10] (by kernel_rfl) (WL.pick [0] (by kernel_rfl) (by kernel_rfl) (K4 false hM))
def inet_word.f (k : Nat) (a0 : Int) : Option (ByteArray) :=
 (octets_Put.f k (u64 a0) 2).bind fun (r1, r2) =>
 some r1
theorem inet_word_calls (k : Nat) (a0 : Int) (r : ByteArray) (h : inet_word.f k a0 = some r) : Pure Tryz.prog Glob 360 #[.int .i64 a0] (.string r) := by
 intro w Z hS
 refine callsS (args := [.int .i64 a0]) (L := [(0, .int .i64 a0)]) (N := 12) Tryz.func360 hS ?_
 have hM := h
 clear h hS
 unfold inet_word.f at hM
 refine WP.seq ?_
 refine WP.rn [] [(2, .string (⟨#[]⟩ : ByteArray))] ?_
 refine WP.seq (WP.region (WL.rn 2 [] [(7, .int .u64 (u64 a0))] ?_))
 obtain ⟨⟨r1, r2⟩, h3, hM⟩ := bind_some hM
 dsimp only at hM
 refine WL.callP [] [] (octets_Put_calls k (u64 a0) 2 _ h3) (fun _ h => h) (by kernel_rfl) (by kernel_rfl) rfl ?_
 refine WL.rn 5 [] [(3, .string r1)] ?_
 refine WP.done (WP.seq (WP.rn [] [(2, .string r1)] ?_))
 obtain rfl := Option.some.inj hM
 exact WP.retQ [] []
def inet_flags.k1 (x5 : Int) : Option (Int) :=
 some x5
def inet_flags.k2 (a0 : api_Ip) (x3 : Int) : Option (Int) :=
 bif a0.More then
  inet_flags.k1 (bOr .i64 x3 8192)
 else
  inet_flags.k1 x3
def inet_flags.f (a0 : api_Ip) : Option (Int) :=
 bif a0.Whole then
  inet_flags.k2 a0 (bOr .i64 a0.Off 16384)
 else
  inet_flags.k2 a0 a0.Off
theorem inet_flags_calls (a0 : api_Ip) (r : Int) (h : inet_flags.f a0 = some r) : Pure Tryz.prog Glob 361 #[api_Ip.v a0] (.int .i64 r) := by
 intro w Z hS
 refine callsS (args := [api_Ip.v a0]) (L := [(0, api_Ip.v a0)]) (N := 15) Tryz.func361 hS ?_
 have hM := h
 clear h hS
 unfold inet_flags.f at hM
 refine WP.seq ?_
 refine WP.rh [] (fun b1 => [(1, .pointer (some ⟨b1, 0, none⟩)), (2, .int .i64 0)]) (fun b1 => []) (fun b1 => [(b1, api_Ip.o a0)]) (fun b1 => ?_)
 refine WP.seq (WP.rn [0] [(3, .int .i64 a0.Off)] ?_)
 refine WP.seqJoin (σ := Int) (fun st => inet_flags.k2 a0 st = some r) (fun st => [(1, .pointer (some ⟨b1, 0, none⟩)), (2, .int .i64 0), (3, .int .i64 st)]) (fun st => Sat w Z [(b1, api_Ip.o a0)] [] Glob) (fun st hM => ?_) (fun K2 => ?_)
 ·
  obtain ⟨x3, rfl⟩ : ∃ y, y = st := ⟨st, rfl⟩
  replace hM : inet_flags.k2 a0 x3 = some r := hM
  unfold inet_flags.k2 at hM
  try dsimp only
  refine WP.seqJoin (σ := Int) (fun st => inet_flags.k1 st = some r) (fun st => [(2, .int .i64 0), (3, .int .i64 st)]) (fun st => Sat w Z [] [] Glob) (fun st hM => ?_) (fun K1 => ?_)
  ·
   obtain ⟨x5, rfl⟩ : ∃ y, y = st := ⟨st, rfl⟩
   replace hM : inet_flags.k1 x5 = some r := hM
   unfold inet_flags.k1 at hM
   try dsimp only
   refine WP.seq (WP.rn [] [(2, .int .i64 x5)] ?_)
   obtain rfl := Option.some.inj hM
   exact WP.retQ [] []
  ·
   refine WP.seq (WP.rn [0] [(11, .bool a0.More)] ?_)
   refine WP.kp [false] ?_
   refine WP.cond a0.More rfl rfl (fun c4 => ?_) (fun c4 => ?_)
   ·replace hM := cond_t hM c4
    refine WP.rn [] [(3, .int .i64 (bOr .i64 x3 8192))] ?_
    exact WP.sub [2, 3] (by kernel_rfl) (WP.pick [] (by kernel_rfl) (by kernel_rfl) (K1 (bOr .i64 x3 8192) hM))
   ·replace hM := cond_f hM c4
    refine WP.skip ?_
    exact WP.sub [2, 3] (by kernel_rfl) (WP.pick [] (by kernel_rfl) (by kernel_rfl) (K1 x3 hM))
 ·
  refine WP.seq (WP.rn [0] [(7, .bool a0.Whole)] ?_)
  refine WP.cond a0.Whole rfl rfl (fun c2 => ?_) (fun c2 => ?_)
  ·replace hM := cond_t hM c2
   refine WP.rn [] [(3, .int .i64 (bOr .i64 a0.Off 16384))] ?_
   exact WP.sub [1, 2, 3] (by kernel_rfl) (WP.pick [0] (by kernel_rfl) (by kernel_rfl) (K2 (bOr .i64 a0.Off 16384) hM))
  ·replace hM := cond_f hM c2
   refine WP.skip ?_
   exact WP.sub [1, 2, 3] (by kernel_rfl) (WP.pick [0] (by kernel_rfl) (by kernel_rfl) (K2 a0.Off hM))
def inet_Build.f (k : Nat) (a0 : api_Ip) : Option (ByteArray × Int) :=
 (inet_Check.f a0).bind fun r2 =>
 bif (r2 != 0) then
  some ((⟨#[]⟩ : ByteArray), r2)
 else
  (octets_Put.f k (u64 a0.Src) 4).bind fun (r5, r6) =>
  (octets_Put.f k (u64 a0.Dst) 4).bind fun (r8, r9) =>
  (inet_word.f k (i64 (20 + (a0.Body.size : Int)))).bind fun r13 =>
  (catS (ByteArray.push (ByteArray.push ByteArray.empty (UInt8.ofNat (Int.toNat 69))) (UInt8.ofNat (Int.toNat (u8 a0.Tos)))) r13).bind fun t15 =>
  (inet_word.f k a0.Id).bind fun r17 =>
  (catS t15 r17).bind fun t19 =>
  (inet_flags.f a0).bind fun r21 =>
  (inet_word.f k r21).bind fun r23 =>
  (catS t19 r23).bind fun t25 =>
  (catS t25 (ByteArray.push (ByteArray.push ByteArray.empty (UInt8.ofNat (Int.toNat (u8 a0.Ttl)))) (UInt8.ofNat (Int.toNat (u8 a0.Proto))))).bind fun t28 =>
  (catS r5 r8).bind fun t30 =>
  (inet_word.f k 0).bind fun r33 =>
  (csum_Of.f k ([t28, r33, t30] : List ByteArray)).bind fun r36 =>
  (inet_word.f k r36).bind fun r38 =>
  (catS t28 r38).bind fun t40 =>
  (catS t40 t30).bind fun t42 =>
  (catS t42 a0.Body).bind fun t44 =>
  some (t44, 0)
theorem inet_Build_calls (k : Nat) (a0 : api_Ip) (r : ByteArray × Int) (h : inet_Build.f k a0 = some r) : Pure Tryz.prog Glob 333 #[api_Ip.v a0] (.tuple #[.string r.1, .int .i64 r.2]) := by
 intro w Z hS
 refine callsS (args := [api_Ip.v a0]) (L := [(0, api_Ip.v a0)]) (N := 74) Tryz.func333 hS ?_
 have hM := h
 clear h hS
 unfold inet_Build.f at hM
 refine WP.less (Φ' := [] ++ Glob) (fun _ h => h) ?_
 refine WP.seq ?_
 refine WP.rh [] (fun b1 => [(1, .pointer (some ⟨b1, 0, none⟩)), (2, .string (⟨#[]⟩ : ByteArray)), (3, .int .i64 0)]) (fun b1 => []) (fun b1 => [(b1, api_Ip.o a0)]) (fun b1 => ?_)
 refine WP.seq (WP.seq (WP.region (WL.rn 1 [0, 0, 0, 0, 0, 0, 0, 0, 0, 0] [(11, api_Ip.v a0)] ?_)))
 obtain ⟨r2, h3, hM⟩ := bind_some hM
 refine WL.callP [] [] (inet_Check_calls a0 _ h3) (fun _ h => List.mem_append_right _ h) (by kernel_rfl) (by kernel_rfl) rfl ?_
 refine WL.rn 1 [] [(4, .int .i64 r2)] ?_
 refine WP.done (WP.seq (WP.rn [] [(14, .bool (r2 != 0))] ?_))
 refine WP.cond (r2 != 0) rfl rfl (fun c4 => ?_) (fun c4 => ?_)
 ·replace hM := cond_t hM c4
  refine WP.seq ?_
  refine WP.rn [] [(2, .string (⟨#[]⟩ : ByteArray)), (3, .int .i64 r2)] ?_
  obtain rfl := Option.some.inj hM
  exact WP.ret [] [] (.tuple #[.string (⟨#[]⟩ : ByteArray), .int .i64 r2]) (by kernel_rfl) (fun w' hw => ⟨rfl, (hw.pick [] rfl).less (fun _ h => List.mem_append_right _ h)⟩)
 ·replace hM := cond_f hM c4
  refine WP.skip (WP.seq (WP.region (WL.rn 3 [0] [(19, .int .u64 (u64 a0.Src))] ?_)))
  obtain ⟨⟨r5, r6⟩, h7, hM⟩ := bind_some hM
  dsimp only at hM
  refine WL.callP [] [] (octets_Put_calls k (u64 a0.Src) 4 _ h7) (fun _ h => List.mem_append_right _ h) (by kernel_rfl) (by kernel_rfl) rfl ?_
  refine WL.rn 5 [] [(5, .string r5)] ?_
  refine WP.done (WP.seq (WP.region (WL.rn 3 [0] [(26, .int .u64 (u64 a0.Dst))] ?_)))
  obtain ⟨⟨r8, r9⟩, h10, hM⟩ := bind_some hM
  dsimp only at hM
  refine WL.callP [] [] (octets_Put_calls k (u64 a0.Dst) 4 _ h10) (fun _ h => List.mem_append_right _ h) (by kernel_rfl) (by kernel_rfl) rfl ?_
  refine WL.rn 5 [] [(7, .string r8)] ?_
  refine WP.done (WP.seq ?_)
  obtain ⟨r13, h14, hM⟩ := bind_some hM
  obtain ⟨t15, h16, hM⟩ := bind_some hM
  obtain ⟨r17, h18, hM⟩ := bind_some hM
  obtain ⟨t19, h20, hM⟩ := bind_some hM
  obtain ⟨r21, h22, hM⟩ := bind_some hM
  obtain ⟨r23, h24, hM⟩ := bind_some hM
  obtain ⟨t25, h26, hM⟩ := bind_some hM
  refine WP.sub [1, 2, 3, 5, 7] (L' := [(1, .pointer (some ⟨b1, 0, none⟩)), (2, .string (⟨#[]⟩ : ByteArray)), (3, .int .i64 0), (5, .string r5), (7, .string r8)]) (by kernel_rfl) ?_
  refine WP.mixed (X := Unit) 27 [.val (.pointer (some ⟨b1, 0, none⟩)), .val (.int .i64 a0.Tos), .val (.int .u8 (u8 a0.Tos)), .alloc (.cells #[.int .u8 69, .int .u8 (u8 a0.Tos)] 5 (0, 0)) (fun b => .slice (some ⟨b, 0, none⟩) 2 2), .use 3 (.string (ByteArray.push (ByteArray.push ByteArray.empty (UInt8.ofNat (Int.toNat 69))) (UInt8.ofNat (Int.toNat (u8 a0.Tos))))), .val (.pointer (some ⟨b1, 9, none⟩)), .val (.string a0.Body), .val (.int .i64 (a0.Body.size : Int)), .val (.int .i64 (i64 (20 + (a0.Body.size : Int)))), .val (.string r13), .val (.string t15), .val (.pointer (some ⟨b1, 1, none⟩)), .val (.int .i64 a0.Id), .val (.string r17), .val (.string t19), .val (api_Ip.v a0), .val (.int .i64 r21), .val (.string r23), .val (.string t25), .val (.pointer (some ⟨b1, 5, none⟩)), .val (.int .i64 a0.Ttl), .val (.int .u8 (u8 a0.Ttl)), .val (.pointer (some ⟨b1, 6, none⟩)), .val (.int .i64 a0.Proto), .val (.int .u8 (u8 a0.Proto)), .alloc (.cells #[.int .u8 (u8 a0.Ttl), .int .u8 (u8 a0.Proto)] 5 (0, 0)) (fun b => .slice (some ⟨b, 0, none⟩) 2 2), .use 25 (.string (ByteArray.push (ByteArray.push ByteArray.empty (UInt8.ofNat (Int.toNat (u8 a0.Ttl)))) (UInt8.ofNat (Int.toNat (u8 a0.Proto)))))] [(b1, api_Ip.o a0)] [] (by kernel_rfl) (by kernel_rfl) (by kernel_rfl) (by kernel_rfl) (Heads.val (fun tt Ψ => OpV.run [] [] (by kernel_rfl) (fun _ => by kernel_rfl)) (Heads.val (fun tt Ψ => OpV.run [0] [b1] (by kernel_rfl) (fun _ => by kernel_rfl)) (Heads.val (fun tt Ψ => OpV.run [] [] (by kernel_rfl) (fun _ => by kernel_rfl)) (Heads.alloc (fun _ => by kernel_rfl) (fun _ _ => by kernel_rfl) (Heads.use 33 (fun b => .slice (some ⟨b, 0, none⟩) 2 2) (.cells #[.int .u8 69, .int .u8 (u8 a0.Tos)] 5 (0, 0)) rfl rfl (fun _ _ => OpU.run [1, 1] (fun b => [b, b]) (fun _ => by kernel_rfl) (fun _ _ => by kernel_rfl)) (Heads.val (fun tt Ψ => OpV.run [] [] (by kernel_rfl) (fun _ => by kernel_rfl)) (Heads.val (fun tt Ψ => OpV.run [0] [b1] (by kernel_rfl) (fun _ => by kernel_rfl)) (Heads.val (fun tt Ψ => OpV.run [] [] (by kernel_rfl) (fun _ => by kernel_rfl)) (Heads.val (fun tt Ψ => OpV.run [] [] (by kernel_rfl) (fun _ => by kernel_rfl)) (Heads.val (fun tt Ψ => OpV.callF [] [] (fun _ h => (List.mem_append_right _ (List.mem_append_right _ h))) (inet_word_calls k (i64 (20 + (a0.Body.size : Int))) _ h14)  (fun _ => by kernel_rfl)) (Heads.val (fun tt Ψ => OpV.val (fun _ => run_catS (a := (ByteArray.push (ByteArray.push ByteArray.empty (UInt8.ofNat (Int.toNat 69))) (UInt8.ofNat (Int.toNat (u8 a0.Tos))))) (b := r13) (by kernel_rfl) (by kernel_rfl) h16) (by kernel_rfl)) (Heads.val (fun tt Ψ => OpV.run [] [] (by kernel_rfl) (fun _ => by kernel_rfl)) (Heads.val (fun tt Ψ => OpV.run [0] [b1] (by kernel_rfl) (fun _ => by kernel_rfl)) (Heads.val (fun tt Ψ => OpV.callF [] [] (fun _ h => (List.mem_append_right _ (List.mem_append_right _ h))) (inet_word_calls k a0.Id _ h18)  (fun _ => by kernel_rfl)) (Heads.val (fun tt Ψ => OpV.val (fun _ => run_catS (a := t15) (b := r17) (by kernel_rfl) (by kernel_rfl) h20) (by kernel_rfl)) (Heads.val (fun tt Ψ => OpV.run [0, 0, 0, 0, 0, 0, 0, 0, 0, 0] [b1, b1, b1, b1, b1, b1, b1, b1, b1, b1] (by kernel_rfl) (fun _ => by kernel_rfl)) (Heads.val (fun tt Ψ => OpV.callF [] [] (fun _ h => (List.mem_append_right _ (List.mem_append_right _ h))) (inet_flags_calls a0 _ h22)  (fun _ => by kernel_rfl)) (Heads.val (fun tt Ψ => OpV.callF [] [] (fun _ h => (List.mem_append_right _ (List.mem_append_right _ h))) (inet_word_calls k r21 _ h24)  (fun _ => by kernel_rfl)) (Heads.val (fun tt Ψ => OpV.val (fun _ => run_catS (a := t19) (b := r23) (by kernel_rfl) (by kernel_rfl) h26) (by kernel_rfl)) (Heads.val (fun tt Ψ => OpV.run [] [] (by kernel_rfl) (fun _ => by kernel_rfl)) (Heads.val (fun tt Ψ => OpV.run [0] [b1] (by kernel_rfl) (fun _ => by kernel_rfl)) (Heads.val (fun tt Ψ => OpV.run [] [] (by kernel_rfl) (fun _ => by kernel_rfl)) (Heads.val (fun tt Ψ => OpV.run [] [] (by kernel_rfl) (fun _ => by kernel_rfl)) (Heads.val (fun tt Ψ => OpV.run [0] [b1] (by kernel_rfl) (fun _ => by kernel_rfl)) (Heads.val (fun tt Ψ => OpV.run [] [] (by kernel_rfl) (fun _ => by kernel_rfl)) (Heads.alloc (fun _ => by kernel_rfl) (fun _ _ => by kernel_rfl) (Heads.use 55 (fun b => .slice (some ⟨b, 0, none⟩) 2 2) (.cells #[.int .u8 (u8 a0.Ttl), .int .u8 (u8 a0.Proto)] 5 (0, 0)) rfl rfl (fun _ _ => OpU.run [1, 1] (fun b => [b, b]) (fun _ => by kernel_rfl) (fun _ _ => by kernel_rfl)) Heads.nil))))))))))))))))))))))))))) (fun s11 tt => [(30, .pointer (some ⟨b1, 0, none⟩)), (31, .int .i64 a0.Tos), (32, .int .u8 (u8 a0.Tos)), (33, .slice (some ⟨(s11 3), 0, none⟩) 2 2), (34, .string (ByteArray.push (ByteArray.push ByteArray.empty (UInt8.ofNat (Int.toNat 69))) (UInt8.ofNat (Int.toNat (u8 a0.Tos))))), (35, .pointer (some ⟨b1, 9, none⟩)), (36, .string a0.Body), (37, .int .i64 (a0.Body.size : Int)), (38, .int .i64 (i64 (20 + (a0.Body.size : Int)))), (39, .string r13), (40, .string t15), (41, .pointer (some ⟨b1, 1, none⟩)), (42, .int .i64 a0.Id), (43, .string r17), (44, .string t19), (45, api_Ip.v a0), (46, .int .i64 r21), (47, .string r23), (48, .string t25), (49, .pointer (some ⟨b1, 5, none⟩)), (50, .int .i64 a0.Ttl), (51, .int .u8 (u8 a0.Ttl)), (52, .pointer (some ⟨b1, 6, none⟩)), (53, .int .i64 a0.Proto), (54, .int .u8 (u8 a0.Proto)), (55, .slice (some ⟨(s11 25), 0, none⟩) 2 2), (56, .string (ByteArray.push (ByteArray.push ByteArray.empty (UInt8.ofNat (Int.toNat (u8 a0.Ttl)))) (UInt8.ofNat (Int.toNat (u8 a0.Proto))))), (1, .pointer (some ⟨b1, 0, none⟩)), (2, .string (⟨#[]⟩ : ByteArray)), (3, .int .i64 0), (5, .string r5), (7, .string r8)]) (fun s11 tt => [(b1, api_Ip.o a0), ((s11 3), .cells #[.int .u8 69, .int .u8 (u8 a0.Tos)] 5 (0, 0)), ((s11 25), .cells #[.int .u8 (u8 a0.Ttl), .int .u8 (u8 a0.Proto)] 5 (0, 0))]) (fun tt => ([] ++ []) ++ Glob) (fun _ _ => by kernel_rfl) (fun _ _ => by kernel_rfl) (fun _ => by kernel_rfl) (fun s11 tt => ?_)
  generalize s11 3 = b12
  generalize s11 25 = b27
  obtain ⟨t28, h29, hM⟩ := bind_some hM
  refine WL.val (fun _ => run_catS (a := t25) (b := (ByteArray.push (ByteArray.push ByteArray.empty (UInt8.ofNat (Int.toNat (u8 a0.Ttl)))) (UInt8.ofNat (Int.toNat (u8 a0.Proto))))) (by kernel_rfl) (by kernel_rfl) h29) (by kernel_rfl) (by kernel_rfl) rfl ?_
  refine WL.rn 1 [] [(9, .string t28)] ?_
  refine WP.done (WP.kp [true, false, false] ?_)
  refine WP.seq (WP.region (WL.rn 2 [] [(58, .string r5), (59, .string r8)] ?_))
  obtain ⟨t30, h31, hM⟩ := bind_some hM
  refine WL.val (fun _ => run_catS (a := r5) (b := r8) (by kernel_rfl) (by kernel_rfl) h31) (by kernel_rfl) (by kernel_rfl) rfl ?_
  refine WL.rn 1 [] [(10, .string t30)] ?_
  refine WP.done (WP.seq ?_)
  obtain ⟨r33, h34, hM⟩ := bind_some hM
  obtain ⟨r36, h37, hM⟩ := bind_some hM
  obtain ⟨r38, h39, hM⟩ := bind_some hM
  obtain ⟨t40, h41, hM⟩ := bind_some hM
  obtain ⟨t42, h43, hM⟩ := bind_some hM
  refine WP.sub [1, 2, 3, 9, 10] (L' := [(1, .pointer (some ⟨b1, 0, none⟩)), (2, .string (⟨#[]⟩ : ByteArray)), (3, .int .i64 0), (9, .string t28), (10, .string t30)]) (by kernel_rfl) ?_
  refine WP.mixed (X := Unit) 12 [.val (.string t28), .val (.string t28), .val (.string r33), .val (.string t30), .alloc (.cells #[.string t28, .string r33, .string t30] 9 (0, 0)) (fun b => .slice (some ⟨b, 0, none⟩) 3 3), .use 4 (.int .i64 r36), .val (.string r38), .val (.string t40), .val (.string t30), .val (.string t42), .val (.pointer (some ⟨b1, 9, none⟩)), .val (.string a0.Body)] [(b1, api_Ip.o a0)] [] (by kernel_rfl) (by kernel_rfl) (by kernel_rfl) (by kernel_rfl) (Heads.val (fun tt Ψ => OpV.run [] [] (by kernel_rfl) (fun _ => by kernel_rfl)) (Heads.val (fun tt Ψ => OpV.run [] [] (by kernel_rfl) (fun _ => by kernel_rfl)) (Heads.val (fun tt Ψ => OpV.callF [] [] (fun _ h => (List.mem_append_right _ (List.mem_append_right _ h))) (inet_word_calls k 0 _ h34)  (fun _ => by kernel_rfl)) (Heads.val (fun tt Ψ => OpV.run [] [] (by kernel_rfl) (fun _ => by kernel_rfl)) (Heads.alloc (fun _ => by kernel_rfl) (fun _ _ => by kernel_rfl) (Heads.use 65 (fun b => .slice (some ⟨b, 0, none⟩) 3 3) (.cells #[.string t28, .string r33, .string t30] 9 (0, 0)) rfl rfl (fun tt Ψ => OpU.callL (fun b => Row 1 (pl encS) noK (SkL.at b 3 (fun _ => ())) ([t28, r33, t30] : List ByteArray)) [] (fun _ => []) (fun b w hb => row_of_block hb (fun _ _ => rfl) ⟨[], by kernel_rfl⟩ (Nat.le_of_ble_eq_true rfl) (InK.no _ _)) (fun b => (lent2 (lent lent0) (fun _ h => (List.mem_append_right _ (List.mem_append_right _ h))))) (fun b => (csum_Of_calls k (SkL.at b 3 (fun _ => ())) ([t28, r33, t30] : List ByteArray) _ h37)) (fun _ _ => by kernel_rfl)) (Heads.val (fun tt Ψ => OpV.callF [] [] (fun _ h => (List.mem_append_right _ (List.mem_append_right _ h))) (inet_word_calls k r36 _ h39)  (fun _ => by kernel_rfl)) (Heads.val (fun tt Ψ => OpV.val (fun _ => run_catS (a := t28) (b := r38) (by kernel_rfl) (by kernel_rfl) h41) (by kernel_rfl)) (Heads.val (fun tt Ψ => OpV.run [] [] (by kernel_rfl) (fun _ => by kernel_rfl)) (Heads.val (fun tt Ψ => OpV.val (fun _ => run_catS (a := t40) (b := t30) (by kernel_rfl) (by kernel_rfl) h43) (by kernel_rfl)) (Heads.val (fun tt Ψ => OpV.run [] [] (by kernel_rfl) (fun _ => by kernel_rfl)) (Heads.val (fun tt Ψ => OpV.run [0] [b1] (by kernel_rfl) (fun _ => by kernel_rfl)) Heads.nil)))))))))))) (fun s32 tt => [(61, .string t28), (62, .string t28), (63, .string r33), (64, .string t30), (65, .slice (some ⟨(s32 4), 0, none⟩) 3 3), (66, .int .i64 r36), (67, .string r38), (68, .string t40), (69, .string t30), (70, .string t42), (71, .pointer (some ⟨b1, 9, none⟩)), (72, .string a0.Body), (1, .pointer (some ⟨b1, 0, none⟩)), (2, .string (⟨#[]⟩ : ByteArray)), (3, .int .i64 0), (9, .string t28), (10, .string t30)]) (fun s32 tt => [(b1, api_Ip.o a0), ((s32 4), .cells #[.string t28, .string r33, .string t30] 9 (0, 0))]) (fun tt => ([] ++ []) ++ Glob) (fun _ _ => by kernel_rfl) (fun _ _ => by kernel_rfl) (fun _ => by kernel_rfl) (fun s32 tt => ?_)
  generalize s32 4 = b35
  obtain ⟨t44, h45, hM⟩ := bind_some hM
  refine WL.val (fun _ => run_catS (a := t42) (b := a0.Body) (by kernel_rfl) (by kernel_rfl) h45) (by kernel_rfl) (by kernel_rfl) rfl ?_
  refine WL.rn 2 [] [(2, .string t44), (3, .int .i64 0)] ?_
  refine WP.done (WP.kp [false, false] ?_)
  obtain rfl := Option.some.inj hM
  exact WP.ret [] [] (.tuple #[.string t44, .int .i64 0]) (by kernel_rfl) (fun w' hw => ⟨rfl, (hw.pick [] rfl).less (fun _ h => List.mem_append_right _ h)⟩)
def csum_Right.f (k : Nat) (a0 : (List ByteArray)) : Option (Bool) :=
 (csum_total.f k a0).bind fun r1 =>
 some (r1 == 65535)
theorem csum_Right_calls (k : Nat) (A00 : SkL Unit) (a0 : (List ByteArray)) (r : Bool) (h : csum_Right.f k a0 = some r) : Pure Tryz.prog ([Row 1 (pl encS) noK A00 a0] ++ Glob) 338 #[slcV A00 a0.length] (.bool r) := by
 intro w Z hS
 refine callsS (args := [slcV A00 a0.length]) (L := [(0, slcV A00 a0.length)]) (N := 6) Tryz.func338 hS ?_
 have hM := h
 clear h hS
 unfold csum_Right.f at hM
 refine WP.seq (WP.rn [] [(2, .bool false)] ?_)
 refine WP.seq (WP.region (WL.rn 1 [] [(3, slcV A00 a0.length)] ?_))
 obtain ⟨r1, h2, hM⟩ := bind_some hM
 refine WL.callP [] [] (csum_total_calls k A00 a0 _ h2) (sub_pick [0] (by kernel_rfl)) (by kernel_rfl) (by kernel_rfl) rfl ?_
 refine WL.rn 2 [] [(2, .bool (r1 == 65535))] ?_
 refine WP.done ?_
 obtain rfl := Option.some.inj hM
 exact WP.retF [] [] [0]
def inet_get.f (a0 : ByteArray) (a1 : Int) : Option (Int) :=
 (idxS a0 a1).bind fun t1 =>
 (idxS a0 (i64 (a1 + 1))).bind fun t3 =>
 some (bOr .i64 (i64 ((i64 t1) * 256)) (i64 t3))
theorem inet_get_calls (a0 : ByteArray) (a1 : Int) (r : Int) (h : inet_get.f a0 a1 = some r) : Pure Tryz.prog Glob 339 #[.string a0, .int .i64 a1] (.int .i64 r) := by
 intro w Z hS
 refine callsS (args := [.string a0, .int .i64 a1]) (L := [(0, .string a0), (1, .int .i64 a1)]) (N := 16) Tryz.func339 hS ?_
 have hM := h
 clear h hS
 unfold inet_get.f at hM
 refine WP.seq (WP.rn [] [(4, .int .i64 0)] ?_)
 refine WP.seq (WP.quiet (by kernel_rfl) (by kernel_rfl) ?_)
 refine QL.rn 2 [] [(5, .string a0), (6, .int .i64 a1)] ?_
 obtain ⟨t1, h2, hM⟩ := bind_some hM
 refine QL.val (fun _ => run_idxS (s := a0) (k := .i64) (i := a1) (by kernel_rfl) (by kernel_rfl) (by kernel_rfl) h2) (by kernel_rfl) (by kernel_rfl) rfl ?_
 refine QL.rn 5 [] [(9, .int .i64 (i64 ((i64 t1) * 256))), (10, .string a0), (12, .int .i64 (i64 (a1 + 1)))] ?_
 obtain ⟨t3, h4, hM⟩ := bind_some hM
 refine QL.val (fun _ => run_idxS (s := a0) (k := .i64) (i := i64 (a1 + 1)) (by kernel_rfl) (by kernel_rfl) (by kernel_rfl) h4) (by kernel_rfl) (by kernel_rfl) rfl ?_
 refine QL.rn 3 [] [(4, .int .i64 (bOr .i64 (i64 ((i64 t1) * 256)) (i64 t3)))] ?_
 refine QL.done ?_
 obtain rfl := Option.some.inj hM
 exact WP.retQ [] []
def inet_read.f (k : Nat) (a0 : ByteArray) : Option (api_Ip × Un2) :=
 bif decide ((a0.size : Int) < 20) then
  some ((api_Ip.mk 0 0 false false 0 0 0 0 0 (⟨#[]⟩ : ByteArray)), some (inet_odd.mk 60))
 else
  (idxS a0 0).bind fun t3 =>
  bif (t3 != 69) then
   some ((api_Ip.mk 0 0 false false 0 0 0 0 0 (⟨#[]⟩ : ByteArray)), some (inet_odd.mk 61))
  else
   (sliceS a0 0 20).bind fun t6 =>
   (csum_Right.f k ([t6] : List ByteArray)).bind fun r9 =>
   bif !r9 then
    some ((api_Ip.mk 0 0 false false 0 0 0 0 0 (⟨#[]⟩ : ByteArray)), some (inet_odd.mk 62))
   else
    (inet_get.f a0 2).bind fun r12 =>
    (inet_get.f a0 6).bind fun r14 =>
    bif ((decide (r12 < 20)) || ((bAnd .i64 r14 32768) != 0)) then
     some ((api_Ip.mk 0 0 false false 0 0 0 0 0 (⟨#[]⟩ : ByteArray)), some (inet_odd.mk 61))
    else
     bif decide (r12 > (a0.size : Int)) then
      some ((api_Ip.mk 0 0 false false 0 0 0 0 0 (⟨#[]⟩ : ByteArray)), some (inet_odd.mk 60))
     else
      (octets_Get.f k a0 12 4).bind fun (r18, r19) =>
      (octets_Get.f k a0 16 4).bind fun (r21, r22) =>
      (idxS a0 1).bind fun t25 =>
      (inet_get.f a0 4).bind fun r27 =>
      (idxS a0 8).bind fun t29 =>
      (idxS a0 9).bind fun t31 =>
      (sliceS a0 20 r12).bind fun t35 =>
      some ((api_Ip.mk (i64 t25) r27 ((bAnd .i64 r14 16384) != 0) ((bAnd .i64 r14 8192) != 0) (Int.tmod r14 8192) (i64 t29) (i64 t31) (u32 r18) (u32 r21) t35), none)
theorem inet_read_calls (k : Nat) (a0 : ByteArray) (r : api_Ip × Un2) (h : inet_read.f k a0 = some r) : Pure Tryz.prog Glob 310 #[.string a0] (.tuple #[api_Ip.v r.1, Un2.v r.2]) := by
 intro w Z hS
 refine callsS (args := [.string a0]) (L := [(0, .string a0)]) (N := 98) Tryz.func310 hS ?_
 have hM := h
 clear h hS
 unfold inet_read.f at hM
 refine WP.less (Φ' := [] ++ Glob) (fun _ h => h) ?_
 refine WP.seq ?_
 refine WP.rh [] (fun b1 => [(2, .pointer (some ⟨b1, 0, none⟩)), (3, .nilIface)]) (fun b1 => []) (fun b1 => [(b1, .cells #[.int .i64 0, .int .i64 0, .bool false, .bool false, .int .i64 0, .int .i64 0, .int .i64 0, .int .u32 0, .int .u32 0, .string (⟨#[]⟩ : ByteArray)] 314 (0, 0))]) (fun b1 => ?_)
 refine WP.seq (WP.block (WP.seq (WP.rn [] [(11, .bool (decide ((a0.size : Int) < 20)))] ?_)))
 refine WP.cond (decide ((a0.size : Int) < 20)) rfl rfl (fun c2 => ?_) (fun c2 => ?_)
 ·replace hM := cond_t hM c2
  refine WP.seq (WP.rn [0, 0, 0, 0, 0, 0, 0, 0, 0, 0] [(3, .iface 534 (.agg #[.int .i64 60]))] ?_)
  obtain rfl := Option.some.inj hM
  exact WP.ret [0, 0, 0, 0, 0, 0, 0, 0, 0, 0] [b1, b1, b1, b1, b1, b1, b1, b1, b1, b1] (.tuple #[.agg #[.int .i64 0, .int .i64 0, .bool false, .bool false, .int .i64 0, .int .i64 0, .int .i64 0, .int .u32 0, .int .u32 0, .string (⟨#[]⟩ : ByteArray)], .iface 534 (.agg #[.int .i64 60])]) (by kernel_rfl) (fun w' hw => ⟨rfl, (hw.pick [] rfl).less (fun _ h => List.mem_append_right _ h)⟩)
 ·replace hM := cond_f hM c2
  refine WP.seq (WP.region (WL.rn 1 [] [(19, .string a0)] ?_))
  obtain ⟨t3, h4, hM⟩ := bind_some hM
  refine WL.val (fun _ => run_idxS (s := a0) (k := .i64) (i := 0) (by kernel_rfl) (by kernel_rfl) (by kernel_rfl) h4) (by kernel_rfl) (by kernel_rfl) rfl ?_
  refine WL.rn 2 [] [(18, .bool (t3 != 69))] ?_
  refine WP.done ?_
  refine WP.cond (t3 != 69) rfl rfl (fun c5 => ?_) (fun c5 => ?_)
  ·replace hM := cond_t hM c5
   refine WP.seq (WP.rn [0, 0, 0, 0, 0, 0, 0, 0, 0, 0] [(3, .iface 534 (.agg #[.int .i64 61]))] ?_)
   obtain rfl := Option.some.inj hM
   exact WP.ret [0, 0, 0, 0, 0, 0, 0, 0, 0, 0] [b1, b1, b1, b1, b1, b1, b1, b1, b1, b1] (.tuple #[.agg #[.int .i64 0, .int .i64 0, .bool false, .bool false, .int .i64 0, .int .i64 0, .int .i64 0, .int .u32 0, .int .u32 0, .string (⟨#[]⟩ : ByteArray)], .iface 534 (.agg #[.int .i64 61])]) (by kernel_rfl) (fun w' hw => ⟨rfl, (hw.pick [] rfl).less (fun _ h => List.mem_append_right _ h)⟩)
  ·replace hM := cond_f hM c5
   refine WP.seq (WP.region (WL.rn 1 [] [(26, .string a0)] ?_))
   obtain ⟨t6, h7, hM⟩ := bind_some hM
   refine WL.val (fun _ => run_sliceS_hi (s := a0) (kh := .i64) (h := 20) (by kernel_rfl) (by kernel_rfl) (by kernel_rfl) h7) (by kernel_rfl) (by kernel_rfl) rfl ?_
   refine WL.rh 1 [] (fun b8 => [(28, .slice (some ⟨b8, 0, none⟩) 1 1)]) (fun b8 => []) (fun b8 => [(b8, .cells #[.string t6] 9 (0, 0))]) (fun b8 => ?_)
   refine WL.ice (H' := [(b1, .cells #[.int .i64 0, .int .i64 0, .bool false, .bool false, .int .i64 0, .int .i64 0, .int .i64 0, .int .u32 0, .int .u32 0, .string (⟨#[]⟩ : ByteArray)] 314 (0, 0))]) (Row 1 (pl encS) noK (SkL.at b8 1 (fun _ => ())) ([t6] : List ByteArray)) 1 (b := b8) (ob := .cells #[.string t6] 9 (0, 0)) (by kernel_rfl) [] [] (by kernel_rfl) (fun w hb hψ => row_of_block hb (fun _ _ => rfl) ⟨[], by kernel_rfl⟩ (Nat.le_of_ble_eq_true rfl) (InK.no _ _)) (by kernel_rfl) ?_
   obtain ⟨r9, h10, hM⟩ := bind_some hM
   refine WL.callP [] [] (csum_Right_calls k (SkL.at b8 1 (fun _ => ())) ([t6] : List ByteArray) _ h10) (sub_pick [0] (by kernel_rfl)) (by kernel_rfl) (by kernel_rfl) rfl ?_
   refine WL.rn 2 [] [(25, .bool (!r9))] ?_
   refine WP.done ?_
   refine WP.cond (!r9) rfl rfl (fun c11 => ?_) (fun c11 => ?_)
   ·replace hM := cond_t hM c11
    refine WP.seq (WP.rn [0, 0, 0, 0, 0, 0, 0, 0, 0, 0] [(3, .iface 534 (.agg #[.int .i64 62]))] ?_)
    obtain rfl := Option.some.inj hM
    exact WP.ret [0, 0, 0, 0, 0, 0, 0, 0, 0, 0] [b1, b1, b1, b1, b1, b1, b1, b1, b1, b1] (.tuple #[.agg #[.int .i64 0, .int .i64 0, .bool false, .bool false, .int .i64 0, .int .i64 0, .int .i64 0, .int .u32 0, .int .u32 0, .string (⟨#[]⟩ : ByteArray)], .iface 534 (.agg #[.int .i64 62])]) (by kernel_rfl) (fun w' hw => ⟨rfl, (hw.pick [] rfl).less (fun _ h => List.mem_append_right _ h)⟩)
   ·replace hM := cond_f hM c11
    refine WP.skip (WP.leave (WP.seq (WP.region (WL.rn 1 [] [(34, .string a0)] ?_))))
    obtain ⟨r12, h13, hM⟩ := bind_some hM
    refine WL.callP [] [] (inet_get_calls a0 2 _ h13) (fun _ h => List.mem_append_right _ h) (by kernel_rfl) (by kernel_rfl) rfl ?_
    refine WL.rn 1 [] [(36, .string a0)] ?_
    obtain ⟨r14, h15, hM⟩ := bind_some hM
    refine WL.callP [] [] (inet_get_calls a0 6 _ h15) (fun _ h => List.mem_append_right _ h) (by kernel_rfl) (by kernel_rfl) rfl ?_
    refine WL.rn 2 [] [(4, .int .i64 r12), (5, .int .i64 r14)] ?_
    refine WP.done (WP.seq (WP.block (WP.seq (WP.region (WL.rn 3 [] [(41, .bool (decide (r12 < 20)))] ?_)))))
    refine WL.bo 41 (decide (r12 < 20)) 4 [] [] (fun b' => [(45, .bool (b' || ((bAnd .i64 r14 32768) != 0)))]) ?_
    refine WL.rn 1 [] [(38, .bool ((decide (r12 < 20)) || ((bAnd .i64 r14 32768) != 0)))] ?_
    refine WP.done ?_
    refine WP.cond ((decide (r12 < 20)) || ((bAnd .i64 r14 32768) != 0)) rfl rfl (fun c16 => ?_) (fun c16 => ?_)
    ·replace hM := cond_t hM c16
     refine WP.seq (WP.rn [0, 0, 0, 0, 0, 0, 0, 0, 0, 0] [(3, .iface 534 (.agg #[.int .i64 61]))] ?_)
     obtain rfl := Option.some.inj hM
     exact WP.ret [0, 0, 0, 0, 0, 0, 0, 0, 0, 0] [b1, b1, b1, b1, b1, b1, b1, b1, b1, b1] (.tuple #[.agg #[.int .i64 0, .int .i64 0, .bool false, .bool false, .int .i64 0, .int .i64 0, .int .i64 0, .int .u32 0, .int .u32 0, .string (⟨#[]⟩ : ByteArray)], .iface 534 (.agg #[.int .i64 61])]) (by kernel_rfl) (fun w' hw => ⟨rfl, (hw.pick [] rfl).less (fun _ h => List.mem_append_right _ h)⟩)
    ·replace hM := cond_f hM c16
     refine WP.seq (WP.rn [] [(49, .bool (decide (r12 > (a0.size : Int))))] ?_)
     refine WP.cond (decide (r12 > (a0.size : Int))) rfl rfl (fun c17 => ?_) (fun c17 => ?_)
     ·replace hM := cond_t hM c17
      refine WP.seq (WP.rn [0, 0, 0, 0, 0, 0, 0, 0, 0, 0] [(3, .iface 534 (.agg #[.int .i64 60]))] ?_)
      obtain rfl := Option.some.inj hM
      exact WP.ret [0, 0, 0, 0, 0, 0, 0, 0, 0, 0] [b1, b1, b1, b1, b1, b1, b1, b1, b1, b1] (.tuple #[.agg #[.int .i64 0, .int .i64 0, .bool false, .bool false, .int .i64 0, .int .i64 0, .int .i64 0, .int .u32 0, .int .u32 0, .string (⟨#[]⟩ : ByteArray)], .iface 534 (.agg #[.int .i64 60])]) (by kernel_rfl) (fun w' hw => ⟨rfl, (hw.pick [] rfl).less (fun _ h => List.mem_append_right _ h)⟩)
     ·replace hM := cond_f hM c17
      refine WP.skip (WP.leave (WP.seq (WP.region (WL.rn 1 [] [(58, .string a0)] ?_))))
      obtain ⟨⟨r18, r19⟩, h20, hM⟩ := bind_some hM
      dsimp only at hM
      refine WL.callP [] [] (octets_Get_calls k a0 12 4 _ h20) (fun _ h => List.mem_append_right _ h) (by kernel_rfl) (by kernel_rfl) rfl ?_
      refine WL.rn 5 [] [(6, .int .u64 r18)] ?_
      refine WP.done (WP.seq (WP.region (WL.rn 1 [] [(63, .string a0)] ?_)))
      obtain ⟨⟨r21, r22⟩, h23, hM⟩ := bind_some hM
      dsimp only at hM
      refine WL.callP [] [] (octets_Get_calls k a0 16 4 _ h23) (fun _ h => List.mem_append_right _ h) (by kernel_rfl) (by kernel_rfl) rfl ?_
      refine WL.rn 5 [] [(8, .int .u64 r21)] ?_
      refine WP.done (WP.seq ?_)
      obtain ⟨t25, h26, hM⟩ := bind_some hM
      obtain ⟨r27, h28, hM⟩ := bind_some hM
      obtain ⟨t29, h30, hM⟩ := bind_some hM
      obtain ⟨t31, h32, hM⟩ := bind_some hM
      refine WP.sub [0, 2, 3, 4, 5, 6, 8] (L' := [(0, .string a0), (2, .pointer (some ⟨b1, 0, none⟩)), (3, .nilIface), (4, .int .i64 r12), (5, .int .i64 r14), (6, .int .u64 r18), (8, .int .u64 r21)]) (by kernel_rfl) ?_
      refine WP.mixed (X := Unit) 21 [.val (.string a0), .val (.int .u8 t25), .val (.int .i64 (i64 t25)), .val (.string a0), .val (.int .i64 r27), .val (.int .i64 r14), .val (.int .i64 (bAnd .i64 r14 16384)), .val (.bool ((bAnd .i64 r14 16384) != 0)), .val (.int .i64 r14), .val (.int .i64 (bAnd .i64 r14 8192)), .val (.bool ((bAnd .i64 r14 8192) != 0)), .val (.int .i64 r14), .val (.int .i64 (Int.tmod r14 8192)), .val (.string a0), .val (.int .u8 t29), .val (.int .i64 (i64 t29)), .val (.string a0), .val (.int .u8 t31), .val (.int .i64 (i64 t31)), .val (.agg #[.int .i64 (i64 t25), .int .i64 r27, .bool ((bAnd .i64 r14 16384) != 0), .bool ((bAnd .i64 r14 8192) != 0), .int .i64 (Int.tmod r14 8192), .int .i64 (i64 t29), .int .i64 (i64 t31), .int .u32 0, .int .u32 0, .string (⟨#[]⟩ : ByteArray)]), .alloc (.cells #[.int .i64 0, .int .i64 0, .bool false, .bool false, .int .i64 0, .int .i64 0, .int .i64 0, .int .u32 0, .int .u32 0, .string (⟨#[]⟩ : ByteArray)] 314 (0, 0)) (fun b => .pointer (some ⟨b, 0, none⟩))] [(b1, .cells #[.int .i64 0, .int .i64 0, .bool false, .bool false, .int .i64 0, .int .i64 0, .int .i64 0, .int .u32 0, .int .u32 0, .string (⟨#[]⟩ : ByteArray)] 314 (0, 0))] [] (by kernel_rfl) (by kernel_rfl) (by kernel_rfl) (by kernel_rfl) (Heads.val (fun tt Ψ => OpV.run [] [] (by kernel_rfl) (fun _ => by kernel_rfl)) (Heads.val (fun tt Ψ => OpV.val (fun _ => run_idxS (s := a0) (k := .i64) (i := 1) (by kernel_rfl) (by kernel_rfl) (by kernel_rfl) h26) (by kernel_rfl)) (Heads.val (fun tt Ψ => OpV.run [] [] (by kernel_rfl) (fun _ => by kernel_rfl)) (Heads.val (fun tt Ψ => OpV.run [] [] (by kernel_rfl) (fun _ => by kernel_rfl)) (Heads.val (fun tt Ψ => OpV.callF [] [] (fun _ h => (List.mem_append_right _ (List.mem_append_right _ h))) (inet_get_calls a0 4 _ h28)  (fun _ => by kernel_rfl)) (Heads.val (fun tt Ψ => OpV.run [] [] (by kernel_rfl) (fun _ => by kernel_rfl)) (Heads.val (fun tt Ψ => OpV.run [] [] (by kernel_rfl) (fun _ => by kernel_rfl)) (Heads.val (fun tt Ψ => OpV.run [] [] (by kernel_rfl) (fun _ => by kernel_rfl)) (Heads.val (fun tt Ψ => OpV.run [] [] (by kernel_rfl) (fun _ => by kernel_rfl)) (Heads.val (fun tt Ψ => OpV.run [] [] (by kernel_rfl) (fun _ => by kernel_rfl)) (Heads.val (fun tt Ψ => OpV.run [] [] (by kernel_rfl) (fun _ => by kernel_rfl)) (Heads.val (fun tt Ψ => OpV.run [] [] (by kernel_rfl) (fun _ => by kernel_rfl)) (Heads.val (fun tt Ψ => OpV.run [] [] (by kernel_rfl) (fun _ => by kernel_rfl)) (Heads.val (fun tt Ψ => OpV.run [] [] (by kernel_rfl) (fun _ => by kernel_rfl)) (Heads.val (fun tt Ψ => OpV.val (fun _ => run_idxS (s := a0) (k := .i64) (i := 8) (by kernel_rfl) (by kernel_rfl) (by kernel_rfl) h30) (by kernel_rfl)) (Heads.val (fun tt Ψ => OpV.run [] [] (by kernel_rfl) (fun _ => by kernel_rfl)) (Heads.val (fun tt Ψ => OpV.run [] [] (by kernel_rfl) (fun _ => by kernel_rfl)) (Heads.val (fun tt Ψ => OpV.val (fun _ => run_idxS (s := a0) (k := .i64) (i := 9) (by kernel_rfl) (by kernel_rfl) (by kernel_rfl) h32) (by kernel_rfl)) (Heads.val (fun tt Ψ => OpV.run [] [] (by kernel_rfl) (fun _ => by kernel_rfl)) (Heads.val (fun tt Ψ => OpV.run [] [] (by kernel_rfl) (fun _ => by kernel_rfl)) (Heads.alloc (fun _ => by kernel_rfl) (fun _ _ => by kernel_rfl) Heads.nil))))))))))))))))))))) (fun s24 tt => [(67, .string a0), (68, .int .u8 t25), (69, .int .i64 (i64 t25)), (70, .string a0), (71, .int .i64 r27), (72, .int .i64 r14), (73, .int .i64 (bAnd .i64 r14 16384)), (74, .bool ((bAnd .i64 r14 16384) != 0)), (75, .int .i64 r14), (76, .int .i64 (bAnd .i64 r14 8192)), (77, .bool ((bAnd .i64 r14 8192) != 0)), (78, .int .i64 r14), (79, .int .i64 (Int.tmod r14 8192)), (80, .string a0), (81, .int .u8 t29), (82, .int .i64 (i64 t29)), (83, .string a0), (84, .int .u8 t31), (85, .int .i64 (i64 t31)), (86, .agg #[.int .i64 (i64 t25), .int .i64 r27, .bool ((bAnd .i64 r14 16384) != 0), .bool ((bAnd .i64 r14 8192) != 0), .int .i64 (Int.tmod r14 8192), .int .i64 (i64 t29), .int .i64 (i64 t31), .int .u32 0, .int .u32 0, .string (⟨#[]⟩ : ByteArray)]), (10, .pointer (some ⟨(s24 20), 0, none⟩)), (0, .string a0), (2, .pointer (some ⟨b1, 0, none⟩)), (3, .nilIface), (4, .int .i64 r12), (5, .int .i64 r14), (6, .int .u64 r18), (8, .int .u64 r21)]) (fun s24 tt => [(b1, .cells #[.int .i64 0, .int .i64 0, .bool false, .bool false, .int .i64 0, .int .i64 0, .int .i64 0, .int .u32 0, .int .u32 0, .string (⟨#[]⟩ : ByteArray)] 314 (0, 0)), ((s24 20), .cells #[.int .i64 0, .int .i64 0, .bool false, .bool false, .int .i64 0, .int .i64 0, .int .i64 0, .int .u32 0, .int .u32 0, .string (⟨#[]⟩ : ByteArray)] 314 (0, 0))]) (fun tt => ([] ++ [Row 1 (pl encS) noK (SkL.at b8 1 (fun _ => ())) ([t6] : List ByteArray)]) ++ Glob) (fun _ _ => by kernel_rfl) (fun _ _ => by kernel_rfl) (fun _ => by kernel_rfl) (fun s24 tt => ?_)
      generalize s24 20 = b33
      refine WL.rh 1 [1, 1, 1, 1, 1, 1, 1, 1, 1, 1] (fun _ => []) (fun _ => [(1, 0, [.int .i64 (i64 t25), .int .i64 r27, .bool ((bAnd .i64 r14 16384) != 0), .bool ((bAnd .i64 r14 8192) != 0), .int .i64 (Int.tmod r14 8192), .int .i64 (i64 t29), .int .i64 (i64 t31)])]) (fun _ => []) (fun _ => ?_)
      refine WP.done (WP.seq ?_)
      obtain ⟨t35, h36, hM⟩ := bind_some hM
      refine WP.sub [0, 2, 3, 4, 6, 8, 10] (L' := [(0, .string a0), (2, .pointer (some ⟨b1, 0, none⟩)), (3, .nilIface), (4, .int .i64 r12), (6, .int .u64 r18), (8, .int .u64 r21), (10, .pointer (some ⟨b33, 0, none⟩))]) (by kernel_rfl) ?_
      refine WP.pick [0, 1] (by kernel_rfl) (by kernel_rfl : _ = [(b1, .cells #[.int .i64 0, .int .i64 0, .bool false, .bool false, .int .i64 0, .int .i64 0, .int .i64 0, .int .u32 0, .int .u32 0, .string (⟨#[]⟩ : ByteArray)] 314 (0, 0)), (b33, .cells #[.int .i64 (i64 t25), .int .i64 r27, .bool ((bAnd .i64 r14 16384) != 0), .bool ((bAnd .i64 r14 8192) != 0), .int .i64 (Int.tmod r14 8192), .int .i64 (i64 t29), .int .i64 (i64 t31), .int .u32 0, .int .u32 0, .string (⟨#[]⟩ : ByteArray)] 314 (0, 0))]) ?_
      refine WP.mixed (X := Unit) 11 [.val (.int .u64 r18), .val (.int .u32 (u32 r18)), .val (.int .u64 r21), .val (.int .u32 (u32 r21)), .val (.string a0), .val (.int .i64 r12), .val (.string t35), .val (.pointer (some ⟨b33, 7, none⟩)), .put 11 [] (fun tt => .cells #[.int .i64 (i64 t25), .int .i64 r27, .bool ((bAnd .i64 r14 16384) != 0), .bool ((bAnd .i64 r14 8192) != 0), .int .i64 (Int.tmod r14 8192), .int .i64 (i64 t29), .int .i64 (i64 t31), .int .u32 (u32 r18), .int .u32 0, .string (⟨#[]⟩ : ByteArray)] 314 (0, 0)), .val (.pointer (some ⟨b33, 8, none⟩)), .put 11 [] (fun tt => .cells #[.int .i64 (i64 t25), .int .i64 r27, .bool ((bAnd .i64 r14 16384) != 0), .bool ((bAnd .i64 r14 8192) != 0), .int .i64 (Int.tmod r14 8192), .int .i64 (i64 t29), .int .i64 (i64 t31), .int .u32 (u32 r18), .int .u32 (u32 r21), .string (⟨#[]⟩ : ByteArray)] 314 (0, 0))] [(b1, .cells #[.int .i64 0, .int .i64 0, .bool false, .bool false, .int .i64 0, .int .i64 0, .int .i64 0, .int .u32 0, .int .u32 0, .string (⟨#[]⟩ : ByteArray)] 314 (0, 0))] [(b33, .cells #[.int .i64 (i64 t25), .int .i64 r27, .bool ((bAnd .i64 r14 16384) != 0), .bool ((bAnd .i64 r14 8192) != 0), .int .i64 (Int.tmod r14 8192), .int .i64 (i64 t29), .int .i64 (i64 t31), .int .u32 0, .int .u32 0, .string (⟨#[]⟩ : ByteArray)] 314 (0, 0))] (by kernel_rfl) (by kernel_rfl) (by kernel_rfl) (by kernel_rfl) (Heads.val (fun tt Ψ => OpV.run [] [] (by kernel_rfl) (fun _ => by kernel_rfl)) (Heads.val (fun tt Ψ => OpV.run [] [] (by kernel_rfl) (fun _ => by kernel_rfl)) (Heads.val (fun tt Ψ => OpV.run [] [] (by kernel_rfl) (fun _ => by kernel_rfl)) (Heads.val (fun tt Ψ => OpV.run [] [] (by kernel_rfl) (fun _ => by kernel_rfl)) (Heads.val (fun tt Ψ => OpV.run [] [] (by kernel_rfl) (fun _ => by kernel_rfl)) (Heads.val (fun tt Ψ => OpV.run [] [] (by kernel_rfl) (fun _ => by kernel_rfl)) (Heads.val (fun tt Ψ => OpV.val (fun _ => run_sliceS (s := a0) (kl := .i64) (kh := .i64) (l := 20) (h := r12) (by kernel_rfl) (by kernel_rfl) (by kernel_rfl) (by kernel_rfl) h36) (by kernel_rfl)) (Heads.val (fun tt Ψ => OpV.run [] [] (by kernel_rfl) (fun _ => by kernel_rfl)) (Heads.put (fun x x' h => rfl) 0 b33 (.cells #[.int .i64 (i64 t25), .int .i64 r27, .bool ((bAnd .i64 r14 16384) != 0), .bool ((bAnd .i64 r14 8192) != 0), .int .i64 (Int.tmod r14 8192), .int .i64 (i64 t29), .int .i64 (i64 t31), .int .u32 0, .int .u32 0, .string (⟨#[]⟩ : ByteArray)] 314 (0, 0)) (fun tt => .cells #[.int .i64 (i64 t25), .int .i64 r27, .bool ((bAnd .i64 r14 16384) != 0), .bool ((bAnd .i64 r14 8192) != 0), .int .i64 (Int.tmod r14 8192), .int .i64 (i64 t29), .int .i64 (i64 t31), .int .u32 0, .int .u32 0, .string (⟨#[]⟩ : ByteArray)] 314 (0, 0)) (by kernel_rfl) rfl (fun _ => by kernel_rfl) (fun tt Ψ => OpP.run [1] [b33] (by kernel_rfl) (fun _ _ => by kernel_rfl) (fun _ _ => by kernel_rfl)) (Heads.val (fun tt Ψ => OpV.run [] [] (by kernel_rfl) (fun _ => by kernel_rfl)) (Heads.put (fun x x' h => rfl) 0 b33 (.cells #[.int .i64 (i64 t25), .int .i64 r27, .bool ((bAnd .i64 r14 16384) != 0), .bool ((bAnd .i64 r14 8192) != 0), .int .i64 (Int.tmod r14 8192), .int .i64 (i64 t29), .int .i64 (i64 t31), .int .u32 0, .int .u32 0, .string (⟨#[]⟩ : ByteArray)] 314 (0, 0)) (fun tt => .cells #[.int .i64 (i64 t25), .int .i64 r27, .bool ((bAnd .i64 r14 16384) != 0), .bool ((bAnd .i64 r14 8192) != 0), .int .i64 (Int.tmod r14 8192), .int .i64 (i64 t29), .int .i64 (i64 t31), .int .u32 (u32 r18), .int .u32 0, .string (⟨#[]⟩ : ByteArray)] 314 (0, 0)) (by kernel_rfl) rfl (fun _ => by kernel_rfl) (fun tt Ψ => OpP.run [1] [b33] (by kernel_rfl) (fun _ _ => by kernel_rfl) (fun _ _ => by kernel_rfl)) Heads.nil))))))))))) (fun s34 tt => [(87, .int .u64 r18), (88, .int .u32 (u32 r18)), (89, .int .u64 r21), (90, .int .u32 (u32 r21)), (91, .string a0), (92, .int .i64 r12), (93, .string t35), (94, .pointer (some ⟨b33, 7, none⟩)), (95, .pointer (some ⟨b33, 8, none⟩)), (0, .string a0), (2, .pointer (some ⟨b1, 0, none⟩)), (3, .nilIface), (4, .int .i64 r12), (6, .int .u64 r18), (8, .int .u64 r21), (10, .pointer (some ⟨b33, 0, none⟩))]) (fun s34 tt => [(b1, .cells #[.int .i64 0, .int .i64 0, .bool false, .bool false, .int .i64 0, .int .i64 0, .int .i64 0, .int .u32 0, .int .u32 0, .string (⟨#[]⟩ : ByteArray)] 314 (0, 0)), (b33, .cells #[.int .i64 (i64 t25), .int .i64 r27, .bool ((bAnd .i64 r14 16384) != 0), .bool ((bAnd .i64 r14 8192) != 0), .int .i64 (Int.tmod r14 8192), .int .i64 (i64 t29), .int .i64 (i64 t31), .int .u32 (u32 r18), .int .u32 (u32 r21), .string (⟨#[]⟩ : ByteArray)] 314 (0, 0))]) (fun tt => ([] ++ [Row 1 (pl encS) noK (SkL.at b8 1 (fun _ => ())) ([t6] : List ByteArray)]) ++ Glob) (fun _ _ => by kernel_rfl) (fun _ _ => by kernel_rfl) (fun _ => by kernel_rfl) (fun s34 tt => ?_)
      refine WL.rh 2 [1] (fun _ => []) (fun _ => [(1, 9, [.string t35])]) (fun _ => []) (fun _ => ?_)
      refine WP.done (WP.seq ?_)
      refine WP.rh [1, 1, 1, 1, 1, 1, 1, 1, 1, 1, 0, 0, 0, 0, 0, 0, 0, 0, 0, 0] (fun _ => [(3, .nilIface)]) (fun _ => [(0, 0, [.int .i64 (i64 t25), .int .i64 r27, .bool ((bAnd .i64 r14 16384) != 0), .bool ((bAnd .i64 r14 8192) != 0), .int .i64 (Int.tmod r14 8192), .int .i64 (i64 t29), .int .i64 (i64 t31), .int .u32 (u32 r18), .int .u32 (u32 r21), .string t35])]) (fun _ => []) (fun _ => ?_)
      refine WP.kp [true, false] ?_
      obtain rfl := Option.some.inj hM
      exact WP.ret [0, 0, 0, 0, 0, 0, 0, 0, 0, 0] [b1, b1, b1, b1, b1, b1, b1, b1, b1, b1] (.tuple #[.agg #[.int .i64 (i64 t25), .int .i64 r27, .bool ((bAnd .i64 r14 16384) != 0), .bool ((bAnd .i64 r14 8192) != 0), .int .i64 (Int.tmod r14 8192), .int .i64 (i64 t29), .int .i64 (i64 t31), .int .u32 (u32 r18), .int .u32 (u32 r21), .string t35], .nilIface]) (by kernel_rfl) (fun w' hw => ⟨rfl, (hw.pick [] rfl).less (fun _ h => List.mem_append_right _ h)⟩)
def inet_odd_Unwrap.f (a0 : inet_odd) : Option (Int) :=
 some a0.err
theorem inet_odd_Unwrap_calls (a0 : inet_odd) (r : Int) (h : inet_odd_Unwrap.f a0 = some r) : Pure Tryz.prog Glob 428 #[.agg #[.int .i64 a0.err]] (.iface 29 (.int .i64 r)) := by
 intro w Z hS
 refine callsS (args := [.agg #[.int .i64 a0.err]]) (L := [(0, .agg #[.int .i64 a0.err])]) (N := 6) Tryz.func428 hS ?_
 have hM := h
 clear h hS
 unfold inet_odd_Unwrap.f at hM
 refine WP.seq ?_
 refine WP.rh [] (fun b1 => [(1, .pointer (some ⟨b1, 0, none⟩)), (2, .nilIface)]) (fun b1 => []) (fun b1 => [(b1, .cells #[.int .i64 a0.err] 534 (0, 0))]) (fun b1 => ?_)
 refine WP.seq (WP.rn [0] [(2, .iface 29 (.int .i64 a0.err))] ?_)
 refine WP.kp [false] ?_
 obtain rfl := Option.some.inj hM
 exact WP.retQ [] []
def errors_as_2.f (a0 : inet_odd) (a1 : Int) : Option (Bool × Int) :=
 (inet_odd_Unwrap.f a0).bind fun r3 =>
 some (true, r3)
theorem errors_as_2_calls (b_0 : Nat) (b_1 : Nat) (a0 : inet_odd) (a1 : Int) (r : Bool × Int) (h : errors_as_2.f a0 a1 = some r) : Does Tryz.prog 161 #[.iface 534 (.agg #[.int .i64 a0.err]), .iface 311 (.pointer (some ⟨b_0, 0, none⟩)), .agg #[.pointer (some ⟨2, 311, none⟩), .pointer (some ⟨b_1, 0, none⟩), .int .u64 150], .iface 436 (.agg #[.pointer (some ⟨2, 29, none⟩)])] [(b_0, .cells #[.int .i64 a1] 29 (0, 0)), (b_1, .cells #[.pointer (some ⟨b_0, 0, none⟩)] 311 (0, 0))] Glob (fun _ : Unit => .bool r.1) (fun _ => [(b_0, .cells #[.int .i64 r.2] 29 (0, 0)), (b_1, .cells #[.pointer (some ⟨b_0, 0, none⟩)] 311 (0, 0))]) (fun _ => []) (fun _ => Glob) := by
 intro w Z hS
 refine callsS (args := [.iface 534 (.agg #[.int .i64 a0.err]), .iface 311 (.pointer (some ⟨b_0, 0, none⟩)), .agg #[.pointer (some ⟨2, 311, none⟩), .pointer (some ⟨b_1, 0, none⟩), .int .u64 150], .iface 436 (.agg #[.pointer (some ⟨2, 29, none⟩)])]) (L := [(0, .iface 534 (.agg #[.int .i64 a0.err])), (1, .iface 311 (.pointer (some ⟨b_0, 0, none⟩))), (2, .agg #[.pointer (some ⟨2, 311, none⟩), .pointer (some ⟨b_1, 0, none⟩), .int .u64 150]), (3, .iface 436 (.agg #[.pointer (some ⟨2, 29, none⟩)]))]) (N := 62) Tryz.func161 hS ?_
 have hM := h
 clear h hS
 unfold errors_as_2.f at hM
 refine WP.seq ?_
 refine WP.rh [] (fun b1 => [(6, .pointer (some ⟨b1, 0, none⟩)), (8, .bool false)]) (fun b1 => []) (fun b1 => [(b1, .cells #[.pointer (some ⟨2, 311, none⟩), .pointer (some ⟨b_1, 0, none⟩), .int .u64 150] 322 (0, 0))]) (fun b1 => ?_)
 refine WP.block (WP.unroll 40 ?_)
 refine WP.block (WP.seq (WP.seq ?_))
 refine WP.rn [] [(16, .iface 534 (.agg #[.int .i64 a0.err])), (17, .iface 436 (.agg #[.pointer (some ⟨2, 534, none⟩)])), (18, .iface 436 (.agg #[.pointer (some ⟨2, 29, none⟩)])), (19, .bool false)] ?_
 refine WP.no rfl rfl (WP.skip (WP.seq (WP.seq (WP.region (WL.rn 1 [] [(26, .iface 534 (.agg #[.int .i64 a0.err]))] ?_)))))
 refine WL.val (fun _ => run_assertLacks (t := 534) (v := .agg #[.int .i64 a0.err]) (z := .nilIface) (by kernel_rfl) (by kernel_rfl) (by kernel_rfl)) (by kernel_rfl) (by kernel_rfl) rfl ?_
 refine WL.rn 5 [] [(9, .nilIface), (10, .bool false), (25, .tuple #[.nilIface, .bool false]), (28, .nilIface), (29, .bool false)] ?_
 refine WP.done (WP.seq (WP.rn [] [(30, .bool false), (31, .bool false), (32, .tuple #[]), (33, .tuple #[]), (34, .tuple #[]), (35, .bool false)] ?_))
 refine WP.no rfl rfl (WP.skip (WP.seq (WP.rn [] [(36, .iface 534 (.agg #[.int .i64 a0.err]))] ?_)))
 refine WP.block (WP.seq (WP.region ?_))
 refine WL.val (fun _ => run_assertHas (t := 534) (v := .agg #[.int .i64 a0.err]) (by kernel_rfl) (by kernel_rfl)) (by kernel_rfl) (by kernel_rfl) rfl ?_
 refine WL.rn 2 [] [(38, .bool true), (39, .iface 534 (.agg #[.int .i64 a0.err]))] ?_
 refine WP.done (WP.yes rfl rfl (WP.seq (WP.rn [] [(11, .iface 534 (.agg #[.int .i64 a0.err]))] ?_)))
 refine WP.seq (WP.region (WL.rn 1 [] [(40, .iface 534 (.agg #[.int .i64 a0.err]))] ?_))
 obtain ⟨r3, h4, hM⟩ := bind_some hM
 refine WL.callP [] [] (inet_odd_Unwrap_calls a0 _ h4) (fun _ h => h) (by kernel_rfl) (by kernel_rfl) rfl ?_
 refine WL.rn 1 [] [(0, .iface 29 (.int .i64 r3))] ?_
 refine WP.done (WP.seq (WP.rn [] [(42, .iface 29 (.int .i64 r3)), (43, .bool false)] ?_))
 refine WP.no rfl rfl (WP.skip (WP.leave (WP.leave (WP.round ?_))))
 refine WP.block (WP.seq (WP.seq ?_))
 refine WP.rn [] [(16, .iface 29 (.int .i64 r3)), (17, .iface 436 (.agg #[.pointer (some ⟨2, 29, none⟩)])), (18, .iface 436 (.agg #[.pointer (some ⟨2, 29, none⟩)])), (19, .bool true)] ?_
 refine WP.yes rfl rfl (WP.seq ?_)
 refine WP.rh [2, 2, 2, 1, 3, 0] (fun b5 => [(20, .agg #[.pointer (some ⟨2, 311, none⟩), .pointer (some ⟨b_1, 0, none⟩), .int .u64 150]), (21, .agg #[.pointer (some ⟨2, 29, none⟩), .pointer (some ⟨b_0, 0, none⟩), .int .u64 386]), (22, .iface 29 (.int .i64 r3)), (23, .agg #[.pointer (some ⟨2, 29, none⟩), .pointer (some ⟨b5, 0, none⟩), .int .u64 130])]) (fun b5 => [(0, 0, [.int .i64 r3])]) (fun b5 => [(b5, .cells #[.int .i64 r3] 29 (0, 0))]) (fun b5 => ?_)
 refine WP.seq (WP.rn [] [(8, .bool true)] ?_)
 obtain rfl := Option.some.inj hM
 exact WP.ret [] [] (.bool true) (by kernel_rfl) (fun w' hw => ⟨(), rfl, hw.pick [0, 1] (by kernel_rfl)⟩)
def errors_As_2.f (a0 : inet_odd) (a1 : Int) : Option (Bool × Int) :=
 (errors_as_2.f a0 a1).bind fun (r2, r3) =>
 some (r2, r3)
theorem errors_As_2_calls (b_0 : Nat) (a0 : inet_odd) (a1 : Int) (r : Bool × Int) (h : errors_As_2.f a0 a1 = some r) : Does Tryz.prog 74 #[.iface 534 (.agg #[.int .i64 a0.err]), .iface 311 (.pointer (some ⟨b_0, 0, none⟩))] [(b_0, .cells #[.int .i64 a1] 29 (0, 0))] Glob (fun _ : Unit => .bool r.1) (fun _ => [(b_0, .cells #[.int .i64 r.2] 29 (0, 0))]) (fun _ => []) (fun _ => Glob) := by
 intro w Z hS
 refine callsS (args := [.iface 534 (.agg #[.int .i64 a0.err]), .iface 311 (.pointer (some ⟨b_0, 0, none⟩))]) (L := [(0, .iface 534 (.agg #[.int .i64 a0.err])), (1, .iface 311 (.pointer (some ⟨b_0, 0, none⟩)))]) (N := 42) Tryz.func74 hS ?_
 have hM := h
 clear h hS
 unfold errors_As_2.f at hM
 refine WP.seq (WP.rn [] [(4, .bool false)] ?_)
 refine WP.seq (WP.seq (WP.rn [] [(9, .bool false)] ?_))
 refine WP.no rfl rfl (WP.skip (WP.seq (WP.seq (WP.rn [] [(11, .bool false)] ?_))))
 refine WP.no rfl rfl (WP.skip (WP.seq ?_))
 refine WP.rh [2, 2, 2] (fun b1 => [(5, .pointer (some ⟨(b1 + 1), 0, none⟩))]) (fun b1 => []) (fun b1 => [(b1, .cells #[.pointer (some ⟨b_0, 0, none⟩)] 311 (0, 0)), ((b1 + 1), .cells #[.pointer (some ⟨2, 311, none⟩), .pointer (some ⟨b1, 0, none⟩), .int .u64 150] 322 (0, 0))]) (fun b1 => ?_)
 refine WP.seq ?_
 refine WP.rn [2, 2, 2] [(6, .iface 436 (.agg #[.pointer (some ⟨2, 311, none⟩)]))] ?_
 refine WP.seq (WP.seq (WP.rn [2, 2, 2, 1] [(23, .bool false)] ?_))
 refine WP.no rfl rfl (WP.skip (WP.seq ?_))
 refine WP.rn [] [(7, .iface 436 (.agg #[.pointer (some ⟨2, 29, none⟩)]))] ?_
 refine WP.seq (WP.seq (WP.region ?_))
 refine WL.rn 5 [] [(30, .bool true), (31, .iface 436 (.agg #[.pointer (some ⟨2, 29, none⟩)]))] ?_
 refine WL.loadGlob (v := .iface 436 (.agg #[.pointer (some ⟨2, 176, none⟩)])) (by simp [Glob]) (fun _ => by kernel_rfl) (by kernel_rfl) rfl ?_
 refine WL.rn 3 [] [(35, .bool false)] ?_
 refine WP.done (WP.no rfl rfl (WP.skip (WP.seq (WP.region ?_))))
 refine WL.rn 4 [2, 2, 2] [(37, .iface 534 (.agg #[.int .i64 a0.err])), (38, .iface 311 (.pointer (some ⟨b_0, 0, none⟩))), (39, .agg #[.pointer (some ⟨2, 311, none⟩), .pointer (some ⟨b1, 0, none⟩), .int .u64 150]), (40, .iface 436 (.agg #[.pointer (some ⟨2, 29, none⟩)]))] ?_
 obtain ⟨⟨r2, r3⟩, h4, hM⟩ := bind_some hM
 dsimp only at hM
 refine WL.callE (X := Unit) [] [] [true, true, false] (fun _ => _) (errors_as_2_calls b_0 b1 a0 a1 _ h4) rfl rfl (fun _ h => h) (by kernel_rfl) (by kernel_rfl) (fun _ => rfl) (fun _ => ?_)
 refine WL.rn 1 [] [(4, .bool r2)] ?_
 refine WP.done (WP.kp [true, false, false] ?_)
 obtain rfl := Option.some.inj hM
 exact WP.ret [] [] (.bool r2) (by kernel_rfl) (fun w' hw => ⟨(), rfl, hw.pick [0] (by kernel_rfl)⟩)
def inet_number.f (a0 : inet_odd) : Option (Int) :=
 (errors_As_2.f a0 0).bind fun (r2, r3) =>
 bif r2 then
  some r3
 else
  some 0
theorem inet_number_calls (a0 : inet_odd) (r : Int) (h : inet_number.f a0 = some r) : Pure Tryz.prog Glob 311 #[.iface 534 (.agg #[.int .i64 a0.err])] (.int .i64 r) := by
 intro w Z hS
 refine callsS (args := [.iface 534 (.agg #[.int .i64 a0.err])]) (L := [(0, .iface 534 (.agg #[.int .i64 a0.err]))]) (N := 8) Tryz.func311 hS ?_
 have hM := h
 clear h hS
 unfold inet_number.f at hM
 refine WP.seq (WP.rn [] [(2, .int .i64 0)] ?_)
 refine WP.seq ?_
 refine WP.rh [] (fun b1 => [(3, .pointer (some ⟨b1, 0, none⟩))]) (fun b1 => []) (fun b1 => [(b1, .cells #[.int .i64 0] 29 (0, 0))]) (fun b1 => ?_)
 refine WP.seq (WP.seq (WP.region ?_))
 refine WL.rn 2 [] [(4, .iface 534 (.agg #[.int .i64 a0.err])), (5, .iface 311 (.pointer (some ⟨b1, 0, none⟩)))] ?_
 obtain ⟨⟨r2, r3⟩, h4, hM⟩ := bind_some hM
 dsimp only at hM
 refine WL.callE (X := Unit) [] [] [true] (fun _ => _) (errors_As_2_calls b1 a0 0 _ h4) rfl rfl (fun _ h => h) (by kernel_rfl) (by kernel_rfl) (fun _ => rfl) (fun _ => ?_)
 refine WP.done ?_
 refine WP.cond r2 rfl rfl (fun c5 => ?_) (fun c5 => ?_)
 ·replace hM := cond_t hM c5
  refine WP.seq (WP.rn [0] [(2, .int .i64 r3)] ?_)
  refine WP.kp [false] ?_
  obtain rfl := Option.some.inj hM
  exact WP.retQ [] []
 ·replace hM := cond_f hM c5
  refine WP.skip (WP.seq (WP.rn [] [(2, .int .i64 0)] ?_))
  refine WP.kp [false] ?_
  obtain rfl := Option.some.inj hM
  exact WP.retQ [] []
def inet_Parse.f (k : Nat) (a0 : ByteArray) : Option (api_Ip × Int) :=
 (inet_read.f k a0).bind fun (r2, r3) =>
 match r3 with
 | none =>
  some (r2, 0)
 | some q6 =>
  (inet_number.f q6).bind fun r7 =>
  some ((api_Ip.mk 0 0 false false 0 0 0 0 0 (⟨#[]⟩ : ByteArray)), r7)
theorem inet_Parse_calls (k : Nat) (a0 : ByteArray) (r : api_Ip × Int) (h : inet_Parse.f k a0 = some r) : Pure Tryz.prog Glob 247 #[.string a0] (.tuple #[api_Ip.v r.1, .int .i64 r.2]) := by
 intro w Z hS
 refine callsS (args := [.string a0]) (L := [(0, .string a0)]) (N := 17) Tryz.func247 hS ?_
 have hM := h
 clear h hS
 unfold inet_Parse.f at hM
 refine WP.seq ?_
 refine WP.rh [] (fun b1 => [(2, .pointer (some ⟨b1, 0, none⟩)), (3, .int .i64 0)]) (fun b1 => []) (fun b1 => [(b1, .cells #[.int .i64 0, .int .i64 0, .bool false, .bool false, .int .i64 0, .int .i64 0, .int .i64 0, .int .u32 0, .int .u32 0, .string (⟨#[]⟩ : ByteArray)] 314 (0, 0))]) (fun b1 => ?_)
 refine WP.seq (WP.region (WL.rn 1 [] [(7, .string a0)] ?_))
 obtain ⟨⟨r2, r3⟩, h4, hM⟩ := bind_some hM
 dsimp only at hM
 refine WL.callP [] [] (inet_read_calls k a0 _ h4) (fun _ h => h) (by kernel_rfl) (by kernel_rfl) rfl ?_
 refine WL.rh 6 [1, 1, 1, 1, 1, 1, 1, 1, 1, 1] (fun b5 => [(4, .pointer (some ⟨b5, 0, none⟩)), (5, Un2.v r3)]) (fun b5 => []) (fun b5 => [(b5, api_Ip.o r2)]) (fun b5 => ?_)
 refine WP.done (WP.seq (WP.seq (WP.region (WL.rn 1 [] [(11, Un2.v r3)] ?_))))
 rcases r3 with _ | q6
 ·dsimp only at hM
  refine WL.rn 1 [] [(12, .bool false)] ?_
  refine WP.done (WP.no rfl rfl (WP.skip (WP.seq ?_)))
  refine WP.rh [1, 1, 1, 1, 1, 1, 1, 1, 1, 1, 0, 0, 0, 0, 0, 0, 0, 0, 0, 0] (fun _ => [(3, .int .i64 0)]) (fun _ => [(0, 0, [.int .i64 r2.Tos, .int .i64 r2.Id, .bool r2.Whole, .bool r2.More, .int .i64 r2.Off, .int .i64 r2.Ttl, .int .i64 r2.Proto, .int .u32 r2.Src, .int .u32 r2.Dst, .string r2.Body])]) (fun _ => []) (fun _ => ?_)
  refine WP.kp [true, false] ?_
  obtain rfl := Option.some.inj hM
  exact WP.retQ [0, 0, 0, 0, 0, 0, 0, 0, 0, 0] [b1, b1, b1, b1, b1, b1, b1, b1, b1, b1]
 ·dsimp only at hM
  refine WL.rn 1 [] [(12, .bool true)] ?_
  refine WP.done (WP.yes rfl rfl (WP.seq (WP.region ?_)))
  refine WL.rn 2 [] [(13, .agg #[.int .i64 0, .int .i64 0, .bool false, .bool false, .int .i64 0, .int .i64 0, .int .i64 0, .int .u32 0, .int .u32 0, .string (⟨#[]⟩ : ByteArray)]), (14, .iface 534 (.agg #[.int .i64 q6.err]))] ?_
  obtain ⟨r7, h8, hM⟩ := bind_some hM
  refine WL.callP [] [] (inet_number_calls q6 _ h8) (fun _ h => h) (by kernel_rfl) (by kernel_rfl) rfl ?_
  refine WL.rn 2 [0, 0, 0, 0, 0, 0, 0, 0, 0, 0] [(3, .int .i64 r7)] ?_
  refine WP.done ?_
  obtain rfl := Option.some.inj hM
  exact WP.retQ [0, 0, 0, 0, 0, 0, 0, 0, 0, 0] [b1, b1, b1, b1, b1, b1, b1, b1, b1, b1]
end Go.Proofs.YtlihmahekidkaaaGreatDoor
