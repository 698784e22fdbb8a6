/- The walks of the functions that the laws reach: each shows that a call returns what its plain model says, wherever the model gives an answer. -/
import Derived.Test.YtbbekdmndifkpaaGreatDoorProg
import Derived.Test.YtbbekdmndifkpaaGreatDoorE2
import Derived.Test.YtbbekdmndifkpaaGreatDoorE3

namespace Go.Proofs.YtbbekdmndifkpaaGreatDoor
set_option maxRecDepth 100000
set_option linter.unusedVariables false
set_option linter.unusedSimpArgs false
open Go Eng
/-- What is known of the package-level variables. -/
def Glob : List Pr := [fun w => w.cell? ⟨0, 0, none⟩ = some (.iface 292 (.agg #[.pointer (some ⟨1, 151, none⟩)]))]
def Bldr.ren : Go.Shelf.Ren where
 f := fun | 166 => 124 | 169 => 125 | 240 => 149 | 276 => 155 | n => n
 t := fun | 0 => 0 | 3 => 3 | 4 => 4 | 5 => 5 | 9 => 9 | 20 => 20 | 37 => 250 | 70 => 249 | 72 => 252 | 75 => 151 | 76 => 234 | 80 => 254 | 127 => 313 | 164 => 302 | n => n
 g := fun n => n
theorem Bldr.lays166 : Go.Proofs.Lays.n166 Tryz.prog Bldr.ren where
 mixed := by kernel_rfl
 f166 := by kernel_rfl
 f240 := by kernel_rfl
 f276 := by kernel_rfl
 t0 := by kernel_rfl
 a0 := (fun _ => by kernel_rfl)
 z0 := (fun _ => by kernel_rfl)
 v0 := (fun _ => by kernel_rfl)
 t3 := by kernel_rfl
 a3 := (fun _ => by kernel_rfl)
 z3 := (fun _ => by kernel_rfl)
 v3 := (fun _ => by kernel_rfl)
 t4 := by kernel_rfl
 a4 := (fun _ => by kernel_rfl)
 z4 := (fun _ => by kernel_rfl)
 v4 := (fun _ => by kernel_rfl)
 t9 := by kernel_rfl
 a9 := (fun _ => by kernel_rfl)
 z9 := (fun _ => by kernel_rfl)
 v9 := (fun _ => by kernel_rfl)
 t20 := by kernel_rfl
 a20 := (fun _ => by kernel_rfl)
 z20 := (fun _ => by kernel_rfl)
 v20 := (fun _ => by kernel_rfl)
 t37 := by kernel_rfl
 a37 := (fun _ => by kernel_rfl)
 z37 := (fun _ => by kernel_rfl)
 v37 := (fun _ => by kernel_rfl)
 t70 := by kernel_rfl
 a70 := (fun _ => by kernel_rfl)
 z70 := (fun _ => by kernel_rfl)
 v70 := (fun _ => by kernel_rfl)
 t72 := by kernel_rfl
 a72 := (fun _ => by kernel_rfl)
 z72 := (fun _ => by kernel_rfl)
 v72 := (fun _ => by kernel_rfl)
 t75 := by kernel_rfl
 a75 := (fun _ => by kernel_rfl)
 z75 := (fun _ => by kernel_rfl)
 v75 := (fun _ => by kernel_rfl)
 t164 := by kernel_rfl
 a164 := (fun _ => by kernel_rfl)
 z164 := (fun _ => by kernel_rfl)
 v164 := (fun _ => by kernel_rfl)
theorem Bldr.lays169 : Go.Proofs.Lays.n169 Tryz.prog Bldr.ren where
 mixed := by kernel_rfl
 f169 := by kernel_rfl
 t0 := by kernel_rfl
 a0 := (fun _ => by kernel_rfl)
 z0 := (fun _ => by kernel_rfl)
 v0 := (fun _ => by kernel_rfl)
 t3 := by kernel_rfl
 a3 := (fun _ => by kernel_rfl)
 z3 := (fun _ => by kernel_rfl)
 v3 := (fun _ => by kernel_rfl)
 t9 := by kernel_rfl
 a9 := (fun _ => by kernel_rfl)
 z9 := (fun _ => by kernel_rfl)
 v9 := (fun _ => by kernel_rfl)
 t37 := by kernel_rfl
 a37 := (fun _ => by kernel_rfl)
 z37 := (fun _ => by kernel_rfl)
 v37 := (fun _ => by kernel_rfl)
 t70 := by kernel_rfl
 a70 := (fun _ => by kernel_rfl)
 z70 := (fun _ => by kernel_rfl)
 v70 := (fun _ => by kernel_rfl)
 t72 := by kernel_rfl
 a72 := (fun _ => by kernel_rfl)
 z72 := (fun _ => by kernel_rfl)
 v72 := (fun _ => by kernel_rfl)
 t127 := by kernel_rfl
 a127 := (fun _ => by kernel_rfl)
 z127 := (fun _ => by kernel_rfl)
 v127 := (fun _ => by kernel_rfl)
theorem Bldr.extra : Go.Proofs.Builder.Extra Tryz.prog Bldr.ren where
 sizeBuilder := by kernel_rfl
 liesBuilder := by kernel_rfl
 t5 := by kernel_rfl
 a5 := fun _ => by kernel_rfl
 z5 := fun _ => by kernel_rfl
 v5 := fun _ => by kernel_rfl
 infoByte := by kernel_rfl
 cellsByte := by kernel_rfl
 sizeByte := by kernel_rfl
 neB5 := by decide
structure api_Event where
 In : Bool
 Gate : Int
 Port : Int
 S : ByteArray
structure api_PortCfg where
 Trunk : Bool
 Pvid : Int
 Vids : (List Int)
structure api_Keep where
 Room : Int
 Life : Int
 Moves : Int
 Window : Int
structure api_Near where
 Mac : Int
 Ip : Int
 Room : Int
 Life : Int
 Pend : Int
 Tries : Int
 Apart : Int
structure api_Seg where
 Vid : Int
 Vni : Int
 Peers : (List Int)
structure api_Net where
 Ip : Int
 Bits : Int
structure api_Route where
 To : api_Net
 Via : Int
structure api_Gate where
 Bridge : Int
 Mac : Int
 Ip : Int
 Ports : (List api_PortCfg)
 Edges : (List Bool)
 Keep : api_Keep
 Near : api_Near
 Heard : Int
 Segs : (List api_Seg)
 Routes : (List api_Route)
 Most : Int
 Answers : Bool
def api_Event.v (x : api_Event) : Value := .agg #[.bool x.In, .int .i64 x.Gate, .int .i64 x.Port, .string x.S]
def api_Event.o (x : api_Event) : Obj := .cells #[.bool x.In, .int .i64 x.Gate, .int .i64 x.Port, .string x.S] 28 (0, 0)
def api_Event.enc (x : api_Event) : List Value := [.bool x.In, .int .i64 x.Gate, .int .i64 x.Port, .string x.S]
def api_PortCfg.encS (x : api_PortCfg) (s : (SkL Unit)) : List Value := [.bool x.Trunk, .int .i64 x.Pvid, slcV s x.Vids.length]
def api_PortCfg.inK (x : api_PortCfg) (s : (SkL Unit)) : Pr := Row 1 (pl (encI .i64)) noK s x.Vids
def api_Seg.encS (x : api_Seg) (s : (SkL Unit)) : List Value := [.int .i64 x.Vid, .int .i64 x.Vni, slcV s x.Peers.length]
def api_Seg.inK (x : api_Seg) (s : (SkL Unit)) : Pr := Row 1 (pl (encI .u32)) noK s x.Peers
def api_Route.enc (x : api_Route) : List Value := [.int .u32 x.To.Ip, .int .i64 x.To.Bits, .int .u32 x.Via]
def api_Gate.encS (x : api_Gate) (s : ((SkL (SkL Unit)) × (SkL Unit) × (SkL (SkL Unit)) × (SkL Unit))) : List Value := [.int .u64 x.Bridge, .int .u64 x.Mac, .int .u32 x.Ip, slcV s.1 x.Ports.length, slcV s.2.1 x.Edges.length, .int .i64 x.Keep.Room, .int .i64 x.Keep.Life, .int .i64 x.Keep.Moves, .int .i64 x.Keep.Window, .int .u64 x.Near.Mac, .int .u32 x.Near.Ip, .int .i64 x.Near.Room, .int .i64 x.Near.Life, .int .i64 x.Near.Pend, .int .i64 x.Near.Tries, .int .i64 x.Near.Apart, .int .i64 x.Heard, slcV s.2.2.1 x.Segs.length, slcV s.2.2.2 x.Routes.length, .int .i64 x.Most, .bool x.Answers]
def api_Gate.inK (x : api_Gate) (s : ((SkL (SkL Unit)) × (SkL Unit) × (SkL (SkL Unit)) × (SkL Unit))) : Pr := fun w => (Row 3 api_PortCfg.encS api_PortCfg.inK s.1 x.Ports) w ∧ (Row 1 (pl encB) noK s.2.1 x.Edges) w ∧ (Row 3 api_Seg.encS api_Seg.inK s.2.2.1 x.Segs) w ∧ (Row 3 (pl api_Route.enc) noK s.2.2.2 x.Routes) w
def api_Keep.v (x : api_Keep) : Value := .agg #[.int .i64 x.Room, .int .i64 x.Life, .int .i64 x.Moves, .int .i64 x.Window]
def api_Keep.o (x : api_Keep) : Obj := .cells #[.int .i64 x.Room, .int .i64 x.Life, .int .i64 x.Moves, .int .i64 x.Window] 67 (0, 0)
structure api_Vector where
 Root : Int
 Cost : Int
 Bridge : Int
 Port : Int
 On : Int
structure api_View where
 Up : Bool
 Cost : Int
 Told : Bool
 V : api_Vector
structure api_SpanPort where
 View : api_View
 Edge : Bool
 Left : Int
 Role : Int
 State : Int
 Wait : Int
 Agreed : Bool
 Change : Int
def api_SpanPort.enc (x : api_SpanPort) : List Value := [.bool x.View.Up, .int .i64 x.View.Cost, .bool x.View.Told, .int .u64 x.View.V.Root, .int .i64 x.View.V.Cost, .int .u64 x.View.V.Bridge, .int .i64 x.View.V.Port, .int .i64 x.View.V.On, .bool x.Edge, .int .i64 x.Left, .int .i64 x.Role, .int .i64 x.State, .int .i64 x.Wait, .bool x.Agreed, .int .i64 x.Change]
structure api_Span where
 Bridge : Int
 Ports : (List api_SpanPort)
 Now : Int
def api_Near.v (x : api_Near) : Value := .agg #[.int .u64 x.Mac, .int .u32 x.Ip, .int .i64 x.Room, .int .i64 x.Life, .int .i64 x.Pend, .int .i64 x.Tries, .int .i64 x.Apart]
def api_Near.o (x : api_Near) : Obj := .cells #[.int .u64 x.Mac, .int .u32 x.Ip, .int .i64 x.Room, .int .i64 x.Life, .int .i64 x.Pend, .int .i64 x.Tries, .int .i64 x.Apart] 69 (0, 0)
def api_Route.v (x : api_Route) : Value := .agg #[.int .u32 x.To.Ip, .int .i64 x.To.Bits, .int .u32 x.Via]
def api_Route.o (x : api_Route) : Obj := .cells #[.int .u32 x.To.Ip, .int .i64 x.To.Bits, .int .u32 x.Via] 162 (0, 0)
def api_Net.v (x : api_Net) : Value := .agg #[.int .u32 x.Ip, .int .i64 x.Bits]
def api_Net.o (x : api_Net) : Obj := .cells #[.int .u32 x.Ip, .int .i64 x.Bits] 160 (0, 0)
structure api_Tag where
 Has : Bool
 Pri : Int
 Dei : Bool
 Vid : Int
structure api_Frame where
 Dst : Int
 Src : Int
 Tag : api_Tag
 Type_ : Int
 Body : ByteArray
structure trace_seen where
 Event : api_Event
 vid : Int
 f : api_Frame
 is_ : Bool
structure ether_reader where
 s : ByteArray
 at_ : Int
abbrev Un0 : Type := (Option (Int × Int))
def Un0.v : Un0 → Value
 | none => .nilIface
 | some (q1, q2) => .iface 315 (.agg #[.int .i64 q1, .iface 32 (.int .i64 q2)])
abbrev Un1 : Type := (Option (ByteArray × Int))
def Un1.v : Un1 → Value
 | none => .nilIface
 | some (q1, q2) => .iface 290 (.agg #[.string q1, .iface 32 (.int .i64 q2)])
def ether_reader.o (x : ether_reader) : Obj := .cells #[.string x.s, .int .i64 x.at_] 149 (0, 0)
def api_Frame.o (x : api_Frame) : Obj := .cells #[.int .u64 x.Dst, .int .u64 x.Src, .bool x.Tag.Has, .int .i64 x.Tag.Pri, .bool x.Tag.Dei, .int .i64 x.Tag.Vid, .int .i64 x.Type_, .string x.Body] 40 (0, 0)
def api_Frame.v (x : api_Frame) : Value := .agg #[.int .u64 x.Dst, .int .u64 x.Src, .bool x.Tag.Has, .int .i64 x.Tag.Pri, .bool x.Tag.Dei, .int .i64 x.Tag.Vid, .int .i64 x.Type_, .string x.Body]
def trace_seen.v (x : trace_seen) : Value := .agg #[.bool x.Event.In, .int .i64 x.Event.Gate, .int .i64 x.Event.Port, .string x.Event.S, .int .i64 x.vid, .int .u64 x.f.Dst, .int .u64 x.f.Src, .bool x.f.Tag.Has, .int .i64 x.f.Tag.Pri, .bool x.f.Tag.Dei, .int .i64 x.f.Tag.Vid, .int .i64 x.f.Type_, .string x.f.Body, .bool x.is_]
def trace_seen.o (x : trace_seen) : Obj := .cells #[.bool x.Event.In, .int .i64 x.Event.Gate, .int .i64 x.Event.Port, .string x.Event.S, .int .i64 x.vid, .int .u64 x.f.Dst, .int .u64 x.f.Src, .bool x.f.Tag.Has, .int .i64 x.f.Tag.Pri, .bool x.f.Tag.Dei, .int .i64 x.f.Tag.Vid, .int .i64 x.f.Type_, .string x.f.Body, .bool x.is_] 42 (0, 0)
def api_Tag.v (x : api_Tag) : Value := .agg #[.bool x.Has, .int .i64 x.Pri, .bool x.Dei, .int .i64 x.Vid]
def api_Tag.o (x : api_Tag) : Obj := .cells #[.bool x.Has, .int .i64 x.Pri, .bool x.Dei, .int .i64 x.Vid] 38 (0, 0)
structure api_Arp where
 Op : Int
 SMac : Int
 SIp : Int
 TMac : Int
 TIp : Int
def api_Arp.v (x : api_Arp) : Value := .agg #[.int .i64 x.Op, .int .u64 x.SMac, .int .u32 x.SIp, .int .u64 x.TMac, .int .u32 x.TIp]
def api_Arp.o (x : api_Arp) : Obj := .cells #[.int .i64 x.Op, .int .u64 x.SMac, .int .u32 x.SIp, .int .u64 x.TMac, .int .u32 x.TIp] 51 (0, 0)
structure arp_field where
 v : Int
 n : Int
def arp_field.enc (x : arp_field) : List Value := [.int .u64 x.v, .int .i64 x.n]
def arp_field.o (x : arp_field) : Obj := .cells #[.int .u64 x.v, .int .i64 x.n] 168 (0, 0)
def trace_seen.enc (x : trace_seen) : List Value := [.bool x.Event.In, .int .i64 x.Event.Gate, .int .i64 x.Event.Port, .string x.Event.S, .int .i64 x.vid, .int .u64 x.f.Dst, .int .u64 x.f.Src, .bool x.f.Tag.Has, .int .i64 x.f.Tag.Pri, .bool x.f.Tag.Dei, .int .i64 x.f.Tag.Vid, .int .i64 x.f.Type_, .string x.f.Body, .bool x.is_]
def gangwaylaw16_Bound.f (a0 : Bool) (a0_1 : Int) (a0_2 : (List Int)) : Option (api_PortCfg) :=
 (sliceL a0_2 0 (imin (a0_2.length : Int) 12)).bind fun t3 =>
 (roomL 8 t3.length).bind fun u6 =>
 some (api_PortCfg.mk a0 a0_1 t3)
theorem gangwaylaw16_Bound_calls (A00 : SkL Unit) (a0 : Bool) (a0_1 : Int) (a0_2 : (List Int)) (r : api_PortCfg) (h : gangwaylaw16_Bound.f a0 a0_1 a0_2 = some r) : Does Tryz.prog 59 #[.agg #[.bool a0, .int .i64 a0_1, slcV A00 a0_2.length]] [] ([Row 1 (pl (encI .i64)) noK A00 a0_2] ++ Glob) (fun x : (SkL Unit) => .agg #[.bool r.Trunk, .int .i64 r.Pvid, slcV x r.Vids.length]) (fun x => []) (fun _ => []) (fun x => [Row 1 (pl (encI .i64)) noK x r.Vids] ++ ([Row 1 (pl (encI .i64)) noK A00 a0_2] ++ Glob)) := by
 intro w Z hS
 refine callsS (args := [.agg #[.bool a0, .int .i64 a0_1, slcV A00 a0_2.length]]) (L := [(0, .agg #[.bool a0, .int .i64 a0_1, slcV A00 a0_2.length])]) (N := 14) Tryz.func59 hS ?_
 have hM := h
 clear h hS
 unfold gangwaylaw16_Bound.f at hM
 refine WP.seq ?_
 refine WP.rh [] (fun b1 => [(1, .pointer (some ⟨b1, 0, none⟩)), (2, .pointer (some ⟨(b1 + 1), 0, none⟩))]) (fun b1 => []) (fun b1 => [(b1, .cells #[.bool a0, .int .i64 a0_1, slcV A00 a0_2.length] 84 (0, 0)), ((b1 + 1), .cells #[.bool false, .int .i64 0, .slice none 0 0] 84 (0, 0))]) (fun b1 => ?_)
 refine WP.seq (WP.region ?_)
 refine WL.rh 7 [0, 0] (fun b2 => [(3, .slice (some ⟨b2, 0, none⟩) 0 0), (5, slcV A00 a0_2.length), (9, .int .i64 (imin (a0_2.length : Int) 12))]) (fun b2 => []) (fun b2 => [(b2, .cells #[] 3 (0, 0))]) (fun b2 => ?_)
 obtain ⟨t3, h4, hM⟩ := bind_some hM
 refine WL.valF (φ := Row 1 (pl (encI .i64)) noK A00 a0_2) (fact_at 0 rfl) (fun w hR => run_sliceRow_hi (A := A00) (xs := a0_2) (r := t3) (kh := .i64) (h := imin (a0_2.length : Int) 12) (e := 3) (m := 1) (by kernel_rfl) (by kernel_rfl) hR.ptr h4 (by kernel_rfl) (by kernel_rfl)) (by kernel_rfl) (by kernel_rfl) rfl ?_
 refine WL.know (Row 1 (pl (encI .i64)) noK (A00.cut 0 1) t3) [0] [Row 1 (pl (encI .i64)) noK A00 a0_2] (by kernel_rfl) (fun w hψ => (hψ _ (List.mem_singleton.2 rfl)).cut h4) ?_
 obtain ⟨u6, h5, hM⟩ := bind_some hM
 refine WL.appendCopy (A := (SkL.at b2 0 (fun _ => ()))) (B := (A00.cut 0 1)) (ys := t3) (n := 0) (m := 1) (by_ := 8) (e := 3) (z := .int .i64 0) (f := (pl (encI .i64))) (K := noK) (d := 11) rfl rfl (by kernel_rfl) (by kernel_rfl) (by kernel_rfl) (fun _ _ => rfl) (by kernel_rfl) (by kernel_rfl) rfl rfl (by kernel_rfl) (fact_at 0 rfl) h5 (by kernel_rfl) (fun A7 => ?_)
 refine WL.less (Φ' := ([Row 1 (pl (encI .i64)) noK A7 t3, Row 1 (pl (encI .i64)) noK (A00.cut 0 1) t3, Row 1 (pl (encI .i64)) noK A00 a0_2] ++ Glob)) (fun _ h => h) ?_
 refine WL.rh 2 [0] (fun _ => []) (fun _ => [(0, 2, [slcV A7 t3.length])]) (fun _ => []) (fun _ => ?_)
 refine WP.done (WP.kp [true, true, false] ?_)
 refine WP.seq ?_
 refine WP.rh [0, 0, 0, 1, 1, 1] (fun _ => []) (fun _ => [(1, 0, [.bool a0, .int .i64 a0_1, slcV A7 t3.length])]) (fun _ => []) (fun _ => ?_)
 refine WP.kp [false, true] ?_
 obtain rfl := Option.some.inj hM
 exact WP.ret [0, 0, 0] [(b1 + 1), (b1 + 1), (b1 + 1)] (.agg #[.bool a0, .int .i64 a0_1, slcV A7 t3.length]) (by kernel_rfl) (fun w' hw => ⟨A7, rfl, (hw.pick [] (by kernel_rfl)).less (sub_ret [0] [2] (by kernel_rfl) (by kernel_rfl))⟩)
def gangwaylaw21_Bound.l1 (a0 : (List api_Seg)) : Nat → (List api_Seg) → Int → Option ((List api_Seg))
 | 0, _, _ => none
 | n + 1, x2, x4 =>
  bif ((decide (x4 < (a0.length : Int))) && (decide (x4 < 12))) then
   (getL a0.length a0 x4).bind fun t6 =>
   (sliceL t6.Peers 0 (imin (t6.Peers.length : Int) 20)).bind fun t10 =>
   (roomL 4 t10.length).bind fun u13 =>
   (roomL 40 (x2 ++ ([(api_Seg.mk t6.Vid t6.Vni t10)] : List api_Seg)).length).bind fun u17 =>
   gangwaylaw21_Bound.l1 a0 n (x2 ++ ([(api_Seg.mk t6.Vid t6.Vni t10)] : List api_Seg)) (i64 (x4 + 1))
  else
   some x2
def gangwaylaw21_Bound.f (k : Nat) (a0 : (List api_Seg)) : Option ((List api_Seg)) :=
 gangwaylaw21_Bound.l1 a0 k ([] : List api_Seg) 0
theorem gangwaylaw21_Bound_calls (k : Nat) (A00 : SkL (SkL Unit)) (a0 : (List api_Seg)) (r : (List api_Seg)) (h : gangwaylaw21_Bound.f k a0 = some r) : Does Tryz.prog 60 #[slcV A00 a0.length] [] ([Row 3 api_Seg.encS api_Seg.inK A00 a0] ++ Glob) (fun x : (SkL (SkL Unit)) => slcV x r.length) (fun x => []) (fun _ => []) (fun x => [Row 3 api_Seg.encS api_Seg.inK x r] ++ ([Row 3 api_Seg.encS api_Seg.inK A00 a0] ++ Glob)) := by
 intro w Z hS
 refine callsS (args := [slcV A00 a0.length]) (L := [(0, slcV A00 a0.length)]) (N := 36) Tryz.func60 hS ?_
 have hM := h
 clear h hS
 unfold gangwaylaw21_Bound.f at hM
 refine WP.seq (WP.rn [] [(2, .slice none 0 0)] ?_)
 refine WP.seq ?_
 refine WP.rh [] (fun b1 => [(3, .slice (some ⟨b1, 0, none⟩) 0 0)]) (fun b1 => []) (fun b1 => [(b1, .cells #[] 93 (0, 0))]) (fun b1 => ?_)
 refine WP.seq (WP.seq (WP.rn [] [(4, .int .i64 0)] ?_))
 refine WP.block ?_
 refine WP.growLit (H' := []) (m := 3) (e := 93) (f := api_Seg.encS) api_Seg.inK 0 (b := b1) (cs := #[]) (skF [] (SkL.nil (fun _ => ()))) ([] : List api_Seg) (by kernel_rfl) (fun _ _ => rfl) (by kernel_rfl) (by decide) [] [] (by kernel_rfl) (fun w hψ => trivial) (by kernel_rfl) ?_
 refine WP.sub [0, 2, 3, 4] (L' := [(0, slcV A00 a0.length), (2, .slice none 0 0), (3, slcV (SkL.at b1 0 (skF [] (SkL.nil (fun _ => ())))) ([] : List api_Seg).length), (4, .int .i64 0)]) (by kernel_rfl) ?_
 refine WP.lessF [0, 0, 1] (F' := [GIn api_Seg.inK (SkL.at b1 0 (skF [] (SkL.nil (fun _ => ())))) ([] : List api_Seg), GIn api_Seg.inK (SkL.at b1 0 (skF [] (SkL.nil (fun _ => ())))) ([] : List api_Seg), Row 3 api_Seg.encS api_Seg.inK A00 a0]) (by kernel_rfl) ?_
 refine WP.loop (σ := (List api_Seg) × SkL (SkL Unit) × Int) (fun n st => gangwaylaw21_Bound.l1 a0 n st.1 st.2.2) r (fun st => [(0, slcV A00 a0.length), (2, .slice none 0 0), (3, slcV st.2.1 st.1.length), (4, .int .i64 st.2.2)]) (fun st => Sat w Z [] [OwnR 3 93 api_Seg.encS st.2.1 st.1] ([GIn api_Seg.inK st.2.1 st.1, GIn api_Seg.inK (SkL.at b1 0 (skF [] (SkL.nil (fun _ => ())))) ([] : List api_Seg), Row 3 api_Seg.encS api_Seg.inK A00 a0] ++ Glob)) (st := (([] : List api_Seg), (SkL.at b1 0 (skF [] (SkL.nil (fun _ => ())))), 0)) (fun n st hM => ?_) hM
 rcases n with _ | n
 ·exact nomatch (show (none : Option _) = some r from hM)
 obtain ⟨x2, A3, x4⟩ := st
 replace hM : gangwaylaw21_Bound.l1 a0 (n + 1) x2 x4 = some r := hM
 rw [gangwaylaw21_Bound.l1] at hM
 try dsimp only
 refine WP.seq (WP.seq (WP.region (WL.rn 5 [] [(7, .int .i64 x4), (8, slcV A00 a0.length), (9, .int .i64 (a0.length : Int)), (10, .bool (decide (x4 < (a0.length : Int)))), (11, .bool (decide (x4 < (a0.length : Int))))] ?_)))
 refine WL.bo 11 (decide (x4 < (a0.length : Int))) 3 [] [] (fun b' => [(14, .bool (b' && (decide (x4 < 12))))]) ?_
 refine WP.done ?_
 refine WP.cond ((decide (x4 < (a0.length : Int))) && (decide (x4 < 12))) rfl rfl (fun c5 => ?_) (fun c5 => ?_)
 ·replace hM := cond_t hM c5
  refine WP.skip (WP.seq (WP.block (WP.seq (WP.region (WL.rn 2 [] [(17, slcV A00 a0.length), (18, .int .i64 x4)] ?_)))))
  obtain ⟨t6, h7, hM⟩ := bind_some hM
  refine WL.valF (φ := Row 3 api_Seg.encS api_Seg.inK A00 a0) (fact_at 2 rfl) (fun w hR => run_indexRowF (A := A00) (xs := a0) (i := x4) (k := .i64) (e := 93) (m := 3) (by kernel_rfl) (by kernel_rfl) h7 (by kernel_rfl) (by kernel_rfl) hR) (by kernel_rfl) (by kernel_rfl) rfl ?_
  refine WL.valF (φ := Row 3 api_Seg.encS api_Seg.inK A00 a0) (fact_at 2 rfl) (fun w hR => run_loadRowFA (A := A00) (xs := a0) (i := x4) (j := 0) (n := 3) (vs := [.int .i64 t6.Vid, .int .i64 t6.Vni, slcV (A00.s (Int.toNat x4)) t6.Peers.length]) h7 (fun _ => by kernel_rfl) (by kernel_rfl) (by kernel_rfl) (by kernel_rfl) rfl hR) (by kernel_rfl) (by kernel_rfl) rfl ?_
  refine WL.know (Row 1 (pl (encI .u32)) noK (A00.s (Int.toNat x4)) t6.Peers) [2] [Row 3 api_Seg.encS api_Seg.inK A00 a0] (by kernel_rfl) (fun w hψ => ((hψ _ (List.mem_singleton.2 rfl)).inner _ _ (getL_parts h7).2)) ?_
  refine WL.rh 2 [0, 0, 0] (fun b8 => [(5, .pointer (some ⟨b8, 0, none⟩))]) (fun b8 => []) (fun b8 => [(b8, .cells #[.int .i64 t6.Vid, .int .i64 t6.Vni, slcV (A00.s (Int.toNat x4)) t6.Peers.length] 93 (0, 0))]) (fun b8 => ?_)
  refine WP.done (WP.seq (WP.region ?_))
  refine WL.rh 7 [0, 0] (fun b9 => [(21, .slice (some ⟨b9, 0, none⟩) 0 0), (22, .pointer (some ⟨b8, 2, none⟩)), (23, slcV (A00.s (Int.toNat x4)) t6.Peers.length), (24, .pointer (some ⟨b8, 2, none⟩)), (25, slcV (A00.s (Int.toNat x4)) t6.Peers.length), (26, .int .i64 (t6.Peers.length : Int)), (27, .int .i64 (imin (t6.Peers.length : Int) 20))]) (fun b9 => []) (fun b9 => [(b9, .cells #[] 49 (0, 0))]) (fun b9 => ?_)
  obtain ⟨t10, h11, hM⟩ := bind_some hM
  refine WL.valF (φ := Row 1 (pl (encI .u32)) noK (A00.s (Int.toNat x4)) t6.Peers) (fact_at 0 rfl) (fun w hR => run_sliceRow_hi (A := (A00.s (Int.toNat x4))) (xs := t6.Peers) (r := t10) (kh := .i64) (h := imin (t6.Peers.length : Int) 20) (e := 49) (m := 1) (by kernel_rfl) (by kernel_rfl) hR.ptr h11 (by kernel_rfl) (by kernel_rfl)) (by kernel_rfl) (by kernel_rfl) rfl ?_
  refine WL.know (Row 1 (pl (encI .u32)) noK ((A00.s (Int.toNat x4)).cut 0 1) t10) [0] [Row 1 (pl (encI .u32)) noK (A00.s (Int.toNat x4)) t6.Peers] (by kernel_rfl) (fun w hψ => (hψ _ (List.mem_singleton.2 rfl)).cut h11) ?_
  refine WL.growLit (H' := [(b8, .cells #[.int .i64 t6.Vid, .int .i64 t6.Vni, slcV (A00.s (Int.toNat x4)) t6.Peers.length] 93 (0, 0))]) (m := 1) (e := 49) (f := (pl (encI .u32))) noK 1 (b := b9) (cs := #[]) (fun _ => ()) ([] : List Int) (by kernel_rfl) (fun _ _ => rfl) (by kernel_rfl) (by decide) [] [] (by kernel_rfl) (fun w hψ => (InK.no _ _)) (by kernel_rfl) ?_
  obtain ⟨u13, h12, hM⟩ := bind_some hM
  refine WL.growApp (G' := [OwnR 3 93 api_Seg.encS A3 x2]) (A := (SkL.at b9 0 (fun _ => ()))) (B := ((A00.s (Int.toNat x4)).cut 0 1)) (xs := ([] : List Int)) (ys := t10) (m := 1) (by_ := 4) (e := 49) (z := .int .u32 0) (f := (pl (encI .u32))) (K := noK) (d := 29) 0 rfl rfl (by kernel_rfl) (by kernel_rfl) (by kernel_rfl) (by kernel_rfl) (by kernel_rfl) (fun _ _ => rfl) (fun _ _ => rfl) (by kernel_rfl) (by kernel_rfl) (by kernel_rfl) (by kernel_rfl) (by kernel_rfl) (fact_at 0 rfl) (fact_at 1 rfl) h12 (by kernel_rfl) (fun A14 => ?_)
  refine WL.less (Φ' := ([GIn noK A14 t10, GIn noK (SkL.at b9 0 (fun _ => ())) ([] : List Int), Row 1 (pl (encI .u32)) noK ((A00.s (Int.toNat x4)).cut 0 1) t10, Row 1 (pl (encI .u32)) noK (A00.s (Int.toNat x4)) t6.Peers, GIn api_Seg.inK A3 x2, GIn api_Seg.inK (SkL.at b1 0 (skF [] (SkL.nil (fun _ => ())))) ([] : List api_Seg), Row 3 api_Seg.encS api_Seg.inK A00 a0] ++ Glob)) (fun _ h => h) ?_
  refine WL.rh 2 [0] (fun _ => [(30, .pointer (some ⟨b8, 2, none⟩))]) (fun _ => [(0, 2, [slcV A14 t10.length])]) (fun _ => []) (fun _ => ?_)
  refine WP.done (WP.region ?_)
  refine WL.rh 3 [0, 0, 0] (fun b15 => [(31, slcV A3 x2.length), (32, .agg #[.int .i64 t6.Vid, .int .i64 t6.Vni, slcV A14 t10.length]), (33, .slice (some ⟨b15, 0, none⟩) 1 1)]) (fun b15 => []) (fun b15 => [(b15, .cells #[.int .i64 t6.Vid, .int .i64 t6.Vni, slcV A14 t10.length] 93 (0, 0))]) (fun b15 => ?_)
  refine WL.growIce (G' := [OwnR 3 93 api_Seg.encS A3 x2]) (m := 1) (e := 49) (f := (pl (encI .u32))) (K := noK) (A := A14) (xs := t10) 0 0 (by kernel_rfl) (by kernel_rfl) (fun _ _ => rfl) (by kernel_rfl) ?_
  refine WL.ice (H' := [(b8, .cells #[.int .i64 t6.Vid, .int .i64 t6.Vni, slcV A14 t10.length] 93 (0, 0))]) (Row 3 api_Seg.encS api_Seg.inK (SkL.at b15 1 (skF [A14] (SkL.nil (fun _ => ())))) ([(api_Seg.mk t6.Vid t6.Vni t10)] : List api_Seg)) 1 (b := b15) (ob := .cells #[.int .i64 t6.Vid, .int .i64 t6.Vni, slcV A14 t10.length] 93 (0, 0)) (by kernel_rfl) [0] [Row 1 (pl (encI .u32)) noK A14 t10] (by kernel_rfl) (fun w hb hψ => row_of_block hb (fun _ _ => rfl) ⟨[], by kernel_rfl⟩ (Nat.le_of_ble_eq_true rfl) (And.intro (hψ _ (List.mem_of_getElem? (i := 0) rfl)) trivial)) (by kernel_rfl) ?_
  obtain ⟨u17, h16, hM⟩ := bind_some hM
  refine WL.growApp (G' := []) (A := A3) (B := (SkL.at b15 1 (skF [A14] (SkL.nil (fun _ => ()))))) (xs := x2) (ys := ([(api_Seg.mk t6.Vid t6.Vni t10)] : List api_Seg)) (m := 3) (by_ := 40) (e := 93) (z := .agg #[.int .i64 0, .int .i64 0, .slice none 0 0]) (f := api_Seg.encS) (K := api_Seg.inK) (d := 34) 0 rfl rfl (by kernel_rfl) (by kernel_rfl) (by kernel_rfl) (by kernel_rfl) (by kernel_rfl) (fun _ _ => rfl) (fun _ _ => rfl) (by kernel_rfl) (by kernel_rfl) (by kernel_rfl) (by kernel_rfl) (by kernel_rfl) (fact_at 6 rfl) (fact_at 0 rfl) h16 (by kernel_rfl) (fun A18 => ?_)
  refine WL.less (Φ' := ([GIn api_Seg.inK A18 (x2 ++ ([(api_Seg.mk t6.Vid t6.Vni t10)] : List api_Seg)), Row 3 api_Seg.encS api_Seg.inK (SkL.at b15 1 (skF [A14] (SkL.nil (fun _ => ())))) ([(api_Seg.mk t6.Vid t6.Vni t10)] : List api_Seg), Row 1 (pl (encI .u32)) noK A14 t10, GIn noK A14 t10, GIn noK (SkL.at b9 0 (fun _ => ())) ([] : List Int), Row 1 (pl (encI .u32)) noK ((A00.s (Int.toNat x4)).cut 0 1) t10, Row 1 (pl (encI .u32)) noK (A00.s (Int.toNat x4)) t6.Peers, GIn api_Seg.inK A3 x2, GIn api_Seg.inK (SkL.at b1 0 (skF [] (SkL.nil (fun _ => ())))) ([] : List api_Seg), Row 3 api_Seg.encS api_Seg.inK A00 a0] ++ Glob)) (fun _ h => h) ?_
  refine WL.rn 1 [] [(3, slcV A18 (x2 ++ ([(api_Seg.mk t6.Vid t6.Vni t10)] : List api_Seg)).length)] ?_
  refine WP.done (WP.leave (WP.rn [] [(4, .int .i64 (i64 (x4 + 1))), (15, .int .i64 x4), (16, .int .i64 (i64 (x4 + 1)))] ?_))
  exact WP.again' [0, 2, 3, 4] ((x2 ++ ([(api_Seg.mk t6.Vid t6.Vni t10)] : List api_Seg)), A18, i64 (x4 + 1)) hM (by kernel_rfl) (fun _ h => ((h.pick [] (by kernel_rfl)).lessF [0, 8, 9] (by kernel_rfl)).pickG [0] [] 1 rfl (by decide) (by kernel_rfl))
 ·replace hM := cond_f hM c5
  refine WP.exit rfl (WP.seq (WP.rn [] [(2, slcV A3 x2.length)] ?_))
  refine WP.growIce (G' := []) (m := 3) (e := 93) (f := api_Seg.encS) (K := api_Seg.inK) (A := A3) (xs := x2) 0 0 (by kernel_rfl) (by kernel_rfl) (fun _ _ => rfl) (by kernel_rfl) ?_
  obtain rfl := Option.some.inj hM
  exact WP.ret [] [] (slcV A3 x2.length) (by kernel_rfl) (fun w' hw => ⟨A3, rfl, (hw.pick [] (by kernel_rfl)).less (sub_ret [0] [3] (by kernel_rfl) (by kernel_rfl))⟩)
def gangwaylaw24_Bound.l1 (a0_3 : (List api_PortCfg)) (a0_4 : (List Bool)) (k : Nat) (a0_8 : (List api_Seg)) (a0_9 : (List api_Route)) (a0 : Int) (a0_1 : Int) (a0_2 : Int) (a0_5 : api_Keep) (a0_6 : api_Near) (a0_7 : Int) (a0_10 : Int) (a0_11 : Bool) : Nat → Int → (List api_PortCfg) → Option (api_Gate)
 | 0, _, _ => none
 | n + 1, x15, x16 =>
  bif ((decide (x15 < (a0_3.length : Int))) && (decide (x15 < 5))) then
   (getL a0_3.length a0_3 x15).bind fun t19 =>
   (gangwaylaw16_Bound.f t19.Trunk t19.Pvid t19.Vids).bind fun r21 =>
   (roomL 40 (x16 ++ ([r21] : List api_PortCfg)).length).bind fun u26 =>
   gangwaylaw24_Bound.l1 a0_3 a0_4 k a0_8 a0_9 a0 a0_1 a0_2 a0_5 a0_6 a0_7 a0_10 a0_11 n (i64 (x15 + 1)) (x16 ++ ([r21] : List api_PortCfg))
  else
   (sliceL a0_4 0 (imin (a0_4.length : Int) 5)).bind fun t29 =>
   (roomL 1 t29.length).bind fun u32 =>
   (gangwaylaw21_Bound.f k a0_8).bind fun r34 =>
   (sliceL a0_9 0 (imin (a0_9.length : Int) 8)).bind fun t38 =>
   (roomL 24 t38.length).bind fun u41 =>
   some (api_Gate.mk a0 a0_1 a0_2 x16 t29 (api_Keep.mk (imin a0_5.Room 64) a0_5.Life a0_5.Moves a0_5.Window) (api_Near.mk a0_6.Mac a0_6.Ip (imin a0_6.Room 64) a0_6.Life a0_6.Pend a0_6.Tries a0_6.Apart) a0_7 r34 t38 a0_10 a0_11)
def gangwaylaw24_Bound.f (k : Nat) (a0 : Int) (a0_1 : Int) (a0_2 : Int) (a0_3 : (List api_PortCfg)) (a0_4 : (List Bool)) (a0_5 : api_Keep) (a0_6 : api_Near) (a0_7 : Int) (a0_8 : (List api_Seg)) (a0_9 : (List api_Route)) (a0_10 : Int) (a0_11 : Bool) : Option (api_Gate) :=
 gangwaylaw24_Bound.l1 a0_3 a0_4 k a0_8 a0_9 a0 a0_1 a0_2 a0_5 a0_6 a0_7 a0_10 a0_11 k 0 ([] : List api_PortCfg)
theorem gangwaylaw24_Bound_calls (k : Nat) (A00 : SkL (SkL Unit)) (A01 : SkL Unit) (A02 : SkL (SkL Unit)) (A03 : SkL Unit) (a0 : Int) (a0_1 : Int) (a0_2 : Int) (a0_3 : (List api_PortCfg)) (a0_4 : (List Bool)) (a0_5 : api_Keep) (a0_6 : api_Near) (a0_7 : Int) (a0_8 : (List api_Seg)) (a0_9 : (List api_Route)) (a0_10 : Int) (a0_11 : Bool) (r : api_Gate) (h : gangwaylaw24_Bound.f k a0 a0_1 a0_2 a0_3 a0_4 a0_5 a0_6 a0_7 a0_8 a0_9 a0_10 a0_11 = some r) : Does Tryz.prog 32 #[.agg #[.int .u64 a0, .int .u64 a0_1, .int .u32 a0_2, slcV A00 a0_3.length, slcV A01 a0_4.length, .int .i64 a0_5.Room, .int .i64 a0_5.Life, .int .i64 a0_5.Moves, .int .i64 a0_5.Window, .int .u64 a0_6.Mac, .int .u32 a0_6.Ip, .int .i64 a0_6.Room, .int .i64 a0_6.Life, .int .i64 a0_6.Pend, .int .i64 a0_6.Tries, .int .i64 a0_6.Apart, .int .i64 a0_7, slcV A02 a0_8.length, slcV A03 a0_9.length, .int .i64 a0_10, .bool a0_11]] [] ([Row 3 api_PortCfg.encS api_PortCfg.inK A00 a0_3, Row 1 (pl encB) noK A01 a0_4, Row 3 api_Seg.encS api_Seg.inK A02 a0_8, Row 3 (pl api_Route.enc) noK A03 a0_9] ++ Glob) (fun x : ((SkL (SkL Unit)) × (SkL Unit) × (SkL (SkL Unit)) × (SkL Unit)) => .agg #[.int .u64 r.Bridge, .int .u64 r.Mac, .int .u32 r.Ip, slcV x.1 r.Ports.length, slcV x.2.1 r.Edges.length, .int .i64 r.Keep.Room, .int .i64 r.Keep.Life, .int .i64 r.Keep.Moves, .int .i64 r.Keep.Window, .int .u64 r.Near.Mac, .int .u32 r.Near.Ip, .int .i64 r.Near.Room, .int .i64 r.Near.Life, .int .i64 r.Near.Pend, .int .i64 r.Near.Tries, .int .i64 r.Near.Apart, .int .i64 r.Heard, slcV x.2.2.1 r.Segs.length, slcV x.2.2.2 r.Routes.length, .int .i64 r.Most, .bool r.Answers]) (fun x => []) (fun _ => []) (fun x => [Row 3 api_PortCfg.encS api_PortCfg.inK x.1 r.Ports, Row 1 (pl encB) noK x.2.1 r.Edges, Row 3 api_Seg.encS api_Seg.inK x.2.2.1 r.Segs, Row 3 (pl api_Route.enc) noK x.2.2.2 r.Routes] ++ ([Row 3 api_PortCfg.encS api_PortCfg.inK A00 a0_3, Row 1 (pl encB) noK A01 a0_4, Row 3 api_Seg.encS api_Seg.inK A02 a0_8, Row 3 (pl api_Route.enc) noK A03 a0_9] ++ Glob)) := by
 intro w Z hS
 refine callsS (args := [.agg #[.int .u64 a0, .int .u64 a0_1, .int .u32 a0_2, slcV A00 a0_3.length, slcV A01 a0_4.length, .int .i64 a0_5.Room, .int .i64 a0_5.Life, .int .i64 a0_5.Moves, .int .i64 a0_5.Window, .int .u64 a0_6.Mac, .int .u32 a0_6.Ip, .int .i64 a0_6.Room, .int .i64 a0_6.Life, .int .i64 a0_6.Pend, .int .i64 a0_6.Tries, .int .i64 a0_6.Apart, .int .i64 a0_7, slcV A02 a0_8.length, slcV A03 a0_9.length, .int .i64 a0_10, .bool a0_11]]) (L := [(0, .agg #[.int .u64 a0, .int .u64 a0_1, .int .u32 a0_2, slcV A00 a0_3.length, slcV A01 a0_4.length, .int .i64 a0_5.Room, .int .i64 a0_5.Life, .int .i64 a0_5.Moves, .int .i64 a0_5.Window, .int .u64 a0_6.Mac, .int .u32 a0_6.Ip, .int .i64 a0_6.Room, .int .i64 a0_6.Life, .int .i64 a0_6.Pend, .int .i64 a0_6.Tries, .int .i64 a0_6.Apart, .int .i64 a0_7, slcV A02 a0_8.length, slcV A03 a0_9.length, .int .i64 a0_10, .bool a0_11])]) (N := 67) Tryz.func32 hS ?_
 have hM := h
 clear h hS
 unfold gangwaylaw24_Bound.f at hM
 refine WP.seq ?_
 refine WP.rh [] (fun b1 => [(1, .pointer (some ⟨b1, 0, none⟩)), (2, .pointer (some ⟨(b1 + 1), 0, none⟩))]) (fun b1 => []) (fun b1 => [(b1, .cells #[.int .u64 a0, .int .u64 a0_1, .int .u32 a0_2, slcV A00 a0_3.length, slcV A01 a0_4.length, .int .i64 a0_5.Room, .int .i64 a0_5.Life, .int .i64 a0_5.Moves, .int .i64 a0_5.Window, .int .u64 a0_6.Mac, .int .u32 a0_6.Ip, .int .i64 a0_6.Room, .int .i64 a0_6.Life, .int .i64 a0_6.Pend, .int .i64 a0_6.Tries, .int .i64 a0_6.Apart, .int .i64 a0_7, slcV A02 a0_8.length, slcV A03 a0_9.length, .int .i64 a0_10, .bool a0_11] 73 (0, 0)), ((b1 + 1), .cells #[.int .u64 0, .int .u64 0, .int .u32 0, .slice none 0 0, .slice none 0 0, .int .i64 0, .int .i64 0, .int .i64 0, .int .i64 0, .int .u64 0, .int .u32 0, .int .i64 0, .int .i64 0, .int .i64 0, .int .i64 0, .int .i64 0, .int .i64 0, .slice none 0 0, .slice none 0 0, .int .i64 0, .bool false] 73 (0, 0))]) (fun b1 => ?_)
 refine WP.seq ?_
 refine WP.rh [0, 0, 0, 0, 0, 0, 0, 0, 0, 0, 0, 0, 0, 0, 0, 0, 0, 0, 0, 0, 0, 2, 2, 2, 2, 2, 2, 2, 2, 2, 2, 2, 2, 2, 2, 2, 2, 2, 2, 2, 2, 2] (fun b2 => [(3, .pointer (some ⟨b2, 0, none⟩))]) (fun b2 => []) (fun b2 => [(b2, .cells #[.int .u64 a0, .int .u64 a0_1, .int .u32 a0_2, slcV A00 a0_3.length, slcV A01 a0_4.length, .int .i64 a0_5.Room, .int .i64 a0_5.Life, .int .i64 a0_5.Moves, .int .i64 a0_5.Window, .int .u64 a0_6.Mac, .int .u32 a0_6.Ip, .int .i64 a0_6.Room, .int .i64 a0_6.Life, .int .i64 a0_6.Pend, .int .i64 a0_6.Tries, .int .i64 a0_6.Apart, .int .i64 a0_7, slcV A02 a0_8.length, slcV A03 a0_9.length, .int .i64 a0_10, .bool a0_11] 73 (0, 0))]) (fun b2 => ?_)
 refine WP.seq ?_
 refine WP.rh [2] (fun b3 => []) (fun b3 => [(2, 3, [.slice (some ⟨b3, 0, none⟩) 0 0])]) (fun b3 => [(b3, .cells #[] 84 (0, 0))]) (fun b3 => ?_)
 refine WP.seq (WP.seq (WP.rn [] [(4, .int .i64 0)] ?_))
 refine WP.block ?_
 refine WP.growLit (H' := [(b1, .cells #[.int .u64 a0, .int .u64 a0_1, .int .u32 a0_2, slcV A00 a0_3.length, slcV A01 a0_4.length, .int .i64 a0_5.Room, .int .i64 a0_5.Life, .int .i64 a0_5.Moves, .int .i64 a0_5.Window, .int .u64 a0_6.Mac, .int .u32 a0_6.Ip, .int .i64 a0_6.Room, .int .i64 a0_6.Life, .int .i64 a0_6.Pend, .int .i64 a0_6.Tries, .int .i64 a0_6.Apart, .int .i64 a0_7, slcV A02 a0_8.length, slcV A03 a0_9.length, .int .i64 a0_10, .bool a0_11] 73 (0, 0)), ((b1 + 1), .cells #[.int .u64 0, .int .u64 0, .int .u32 0, .slice none 0 0, .slice none 0 0, .int .i64 0, .int .i64 0, .int .i64 0, .int .i64 0, .int .u64 0, .int .u32 0, .int .i64 0, .int .i64 0, .int .i64 0, .int .i64 0, .int .i64 0, .int .i64 0, .slice none 0 0, .slice none 0 0, .int .i64 0, .bool false] 73 (0, 0)), (b2, .cells #[.int .u64 a0, .int .u64 a0_1, .int .u32 a0_2, slcV (SkL.at b3 0 (skF [] (SkL.nil (fun _ => ())))) ([] : List api_PortCfg).length, slcV A01 a0_4.length, .int .i64 a0_5.Room, .int .i64 a0_5.Life, .int .i64 a0_5.Moves, .int .i64 a0_5.Window, .int .u64 a0_6.Mac, .int .u32 a0_6.Ip, .int .i64 a0_6.Room, .int .i64 a0_6.Life, .int .i64 a0_6.Pend, .int .i64 a0_6.Tries, .int .i64 a0_6.Apart, .int .i64 a0_7, slcV A02 a0_8.length, slcV A03 a0_9.length, .int .i64 a0_10, .bool a0_11] 73 (0, 0))]) (m := 3) (e := 84) (f := api_PortCfg.encS) api_PortCfg.inK 3 (b := b3) (cs := #[]) (skF [] (SkL.nil (fun _ => ()))) ([] : List api_PortCfg) (by kernel_rfl) (fun _ _ => rfl) (by kernel_rfl) (by decide) [] [] (by kernel_rfl) (fun w hψ => trivial) (by kernel_rfl) ?_
 skip
 refine WP.sub [1, 2, 3, 4] (L' := [(1, .pointer (some ⟨b1, 0, none⟩)), (2, .pointer (some ⟨(b1 + 1), 0, none⟩)), (3, .pointer (some ⟨b2, 0, none⟩)), (4, .int .i64 0)]) (by kernel_rfl) ?_
 refine WP.lessF [0, 0, 1, 2, 3, 4] (F' := [GIn api_PortCfg.inK (SkL.at b3 0 (skF [] (SkL.nil (fun _ => ())))) ([] : List api_PortCfg), GIn api_PortCfg.inK (SkL.at b3 0 (skF [] (SkL.nil (fun _ => ())))) ([] : List api_PortCfg), Row 3 api_PortCfg.encS api_PortCfg.inK A00 a0_3, Row 1 (pl encB) noK A01 a0_4, Row 3 api_Seg.encS api_Seg.inK A02 a0_8, Row 3 (pl api_Route.enc) noK A03 a0_9]) (by kernel_rfl) ?_
 refine WP.loop (σ := Int × (List api_PortCfg) × SkL (SkL Unit)) (fun n st => gangwaylaw24_Bound.l1 a0_3 a0_4 k a0_8 a0_9 a0 a0_1 a0_2 a0_5 a0_6 a0_7 a0_10 a0_11 n st.1 st.2.1) r (fun st => [(1, .pointer (some ⟨b1, 0, none⟩)), (2, .pointer (some ⟨(b1 + 1), 0, none⟩)), (3, .pointer (some ⟨b2, 0, none⟩)), (4, .int .i64 st.1)]) (fun st => Sat w Z [(b1, .cells #[.int .u64 a0, .int .u64 a0_1, .int .u32 a0_2, slcV A00 a0_3.length, slcV A01 a0_4.length, .int .i64 a0_5.Room, .int .i64 a0_5.Life, .int .i64 a0_5.Moves, .int .i64 a0_5.Window, .int .u64 a0_6.Mac, .int .u32 a0_6.Ip, .int .i64 a0_6.Room, .int .i64 a0_6.Life, .int .i64 a0_6.Pend, .int .i64 a0_6.Tries, .int .i64 a0_6.Apart, .int .i64 a0_7, slcV A02 a0_8.length, slcV A03 a0_9.length, .int .i64 a0_10, .bool a0_11] 73 (0, 0)), ((b1 + 1), .cells #[.int .u64 0, .int .u64 0, .int .u32 0, .slice none 0 0, .slice none 0 0, .int .i64 0, .int .i64 0, .int .i64 0, .int .i64 0, .int .u64 0, .int .u32 0, .int .i64 0, .int .i64 0, .int .i64 0, .int .i64 0, .int .i64 0, .int .i64 0, .slice none 0 0, .slice none 0 0, .int .i64 0, .bool false] 73 (0, 0)), (b2, .cells #[.int .u64 a0, .int .u64 a0_1, .int .u32 a0_2, slcV st.2.2 st.2.1.length, slcV A01 a0_4.length, .int .i64 a0_5.Room, .int .i64 a0_5.Life, .int .i64 a0_5.Moves, .int .i64 a0_5.Window, .int .u64 a0_6.Mac, .int .u32 a0_6.Ip, .int .i64 a0_6.Room, .int .i64 a0_6.Life, .int .i64 a0_6.Pend, .int .i64 a0_6.Tries, .int .i64 a0_6.Apart, .int .i64 a0_7, slcV A02 a0_8.length, slcV A03 a0_9.length, .int .i64 a0_10, .bool a0_11] 73 (0, 0))] [OwnR 3 84 api_PortCfg.encS st.2.2 st.2.1] ([GIn api_PortCfg.inK st.2.2 st.2.1, GIn api_PortCfg.inK (SkL.at b3 0 (skF [] (SkL.nil (fun _ => ())))) ([] : List api_PortCfg), Row 3 api_PortCfg.encS api_PortCfg.inK A00 a0_3, Row 1 (pl encB) noK A01 a0_4, Row 3 api_Seg.encS api_Seg.inK A02 a0_8, Row 3 (pl api_Route.enc) noK A03 a0_9] ++ Glob)) (st := (0, ([] : List api_PortCfg), (SkL.at b3 0 (skF [] (SkL.nil (fun _ => ())))))) (fun n st hM => ?_) hM
 rcases n with _ | n
 ·exact nomatch (show (none : Option _) = some r from hM)
 obtain ⟨x15, x16, A17⟩ := st
 replace hM : gangwaylaw24_Bound.l1 a0_3 a0_4 k a0_8 a0_9 a0 a0_1 a0_2 a0_5 a0_6 a0_7 a0_10 a0_11 (n + 1) x15 x16 = some r := hM
 rw [gangwaylaw24_Bound.l1] at hM
 try dsimp only
 refine WP.seq (WP.seq (WP.region ?_))
 refine WL.rn 6 [0] [(8, .int .i64 x15), (9, .pointer (some ⟨b1, 3, none⟩)), (10, slcV A00 a0_3.length), (11, .int .i64 (a0_3.length : Int)), (12, .bool (decide (x15 < (a0_3.length : Int)))), (13, .bool (decide (x15 < (a0_3.length : Int))))] ?_
 refine WL.bo 13 (decide (x15 < (a0_3.length : Int))) 3 [] [] (fun b' => [(16, .bool (b' && (decide (x15 < 5))))]) ?_
 refine WP.done ?_
 refine WP.cond ((decide (x15 < (a0_3.length : Int))) && (decide (x15 < 5))) rfl rfl (fun c18 => ?_) (fun c18 => ?_)
 ·replace hM := cond_t hM c18
  refine WP.skip (WP.seq (WP.block ?_))
  obtain ⟨t19, h20, hM⟩ := bind_some hM
  obtain ⟨r21, h22, hM⟩ := bind_some hM
  obtain ⟨u26, h25, hM⟩ := bind_some hM
  refine WP.rs [1, 2, 3, 4, 8, 9, 10, 11, 12, 13, 16] ?_
  refine WP.graphF (X := ((SkL Unit) × Nat × (SkL (SkL Unit)))) 12 7 [⟨0, 12, fun _ => [(b1, .cells #[.int .u64 a0, .int .u64 a0_1, .int .u32 a0_2, slcV A00 a0_3.length, slcV A01 a0_4.length, .int .i64 a0_5.Room, .int .i64 a0_5.Life, .int .i64 a0_5.Moves, .int .i64 a0_5.Window, .int .u64 a0_6.Mac, .int .u32 a0_6.Ip, .int .i64 a0_6.Room, .int .i64 a0_6.Life, .int .i64 a0_6.Pend, .int .i64 a0_6.Tries, .int .i64 a0_6.Apart, .int .i64 a0_7, slcV A02 a0_8.length, slcV A03 a0_9.length, .int .i64 a0_10, .bool a0_11] 73 (0, 0))], fun _ => []⟩, ⟨0, 12, fun _ => [((b1 + 1), .cells #[.int .u64 0, .int .u64 0, .int .u32 0, .slice none 0 0, .slice none 0 0, .int .i64 0, .int .i64 0, .int .i64 0, .int .i64 0, .int .u64 0, .int .u32 0, .int .i64 0, .int .i64 0, .int .i64 0, .int .i64 0, .int .i64 0, .int .i64 0, .slice none 0 0, .slice none 0 0, .int .i64 0, .bool false] 73 (0, 0))], fun _ => []⟩, ⟨0, 11, fun _ => [(b2, .cells #[.int .u64 a0, .int .u64 a0_1, .int .u32 a0_2, slcV A17 x16.length, slcV A01 a0_4.length, .int .i64 a0_5.Room, .int .i64 a0_5.Life, .int .i64 a0_5.Moves, .int .i64 a0_5.Window, .int .u64 a0_6.Mac, .int .u32 a0_6.Ip, .int .i64 a0_6.Room, .int .i64 a0_6.Life, .int .i64 a0_6.Pend, .int .i64 a0_6.Tries, .int .i64 a0_6.Apart, .int .i64 a0_7, slcV A02 a0_8.length, slcV A03 a0_9.length, .int .i64 a0_10, .bool a0_11] 73 (0, 0))], fun _ => []⟩, ⟨0, 9, fun _ => [], fun _ => [OwnR 3 84 api_PortCfg.encS A17 x16]⟩, ⟨9, 9, fun ξ => [((ξ 8).2.1, .cells #[.bool r21.Trunk, .int .i64 r21.Pvid, slcV (ξ 7).1 r21.Vids.length] 84 (0, 0))], fun ξ => []⟩, ⟨10, 12, fun ξ => [], fun ξ => [OwnR 3 84 api_PortCfg.encS (ξ 9).2.2 (x16 ++ ([r21] : List api_PortCfg))]⟩, ⟨12, 12, fun ξ => [(b2, .cells #[.int .u64 a0, .int .u64 a0_1, .int .u32 a0_2, slcV (ξ 9).2.2 (x16 ++ ([r21] : List api_PortCfg)).length, slcV A01 a0_4.length, .int .i64 a0_5.Room, .int .i64 a0_5.Life, .int .i64 a0_5.Moves, .int .i64 a0_5.Window, .int .u64 a0_6.Mac, .int .u32 a0_6.Ip, .int .i64 a0_6.Room, .int .i64 a0_6.Life, .int .i64 a0_6.Pend, .int .i64 a0_6.Tries, .int .i64 a0_6.Apart, .int .i64 a0_7, slcV A02 a0_8.length, slcV A03 a0_9.length, .int .i64 a0_10, .bool a0_11] 73 (0, 0))], fun ξ => []⟩] [⟨[], [], [], [], [], fun _ => .pointer (some ⟨b2, 3, none⟩), fun _ => []⟩, ⟨[0], [2], [2], [], [], fun _ => slcV A17 x16.length, fun _ => []⟩, ⟨[], [], [], [], [], fun _ => .pointer (some ⟨b1, 3, none⟩), fun _ => []⟩, ⟨[2], [0], [0], [], [], fun _ => slcV A00 a0_3.length, fun _ => []⟩, ⟨[], [], [], [], [], fun _ => .int .i64 x15, fun _ => []⟩, ⟨[2, 3, 4], [], [], [], [], fun _ => ptrV A00 (Int.toNat x15 * 3), fun _ => []⟩, ⟨[2, 3, 4, 5], [], [], [], [], fun _ => .agg #[.bool t19.Trunk, .int .i64 t19.Pvid, slcV (A00.s (Int.toNat x15)) t19.Vids.length], fun _ => [Row 1 (pl (encI .i64)) noK (A00.s (Int.toNat x15)) t19.Vids]⟩, ⟨[2, 3, 4, 5, 6], [], [], [], [], fun ξ => .agg #[.bool r21.Trunk, .int .i64 r21.Pvid, slcV (ξ 7).1 r21.Vids.length], fun ξ => [Row 1 (pl (encI .i64)) noK (ξ 7).1 r21.Vids]⟩, ⟨[2, 3, 4, 5, 6, 7], [], [4], [7], [], fun ξ => .slice (some ⟨(ξ 8).2.1, 0, none⟩) 1 1, fun ξ => []⟩, ⟨[0, 1, 2, 3, 4, 5, 6, 7, 8], [4, 3], [5], [7, 8], [], fun ξ => slcV (ξ 9).2.2 (x16 ++ ([r21] : List api_PortCfg)).length, fun ξ => [GIn api_PortCfg.inK (ξ 9).2.2 (x16 ++ ([r21] : List api_PortCfg)), Row 3 api_PortCfg.encS api_PortCfg.inK (SkL.at (ξ 8).2.1 1 (skF [(ξ 7).1] (SkL.nil (fun _ => ())))) ([r21] : List api_PortCfg)]⟩, ⟨[0, 1, 2, 3, 4, 5, 6, 7, 8, 9], [], [], [], [], fun _ => .pointer (some ⟨b2, 3, none⟩), fun _ => []⟩, ⟨[0, 1, 2, 3, 4, 5, 6, 7, 8, 9, 10], [2], [6], [9], [], fun _ => .tuple #[], fun _ => []⟩] (fun ξ => [(19, .pointer (some ⟨b2, 3, none⟩)), (21, .pointer (some ⟨b1, 3, none⟩)), (22, slcV A00 a0_3.length), (23, .int .i64 x15), (24, ptrV A00 (Int.toNat x15 * 3)), (25, .agg #[.bool t19.Trunk, .int .i64 t19.Pvid, slcV (A00.s (Int.toNat x15)) t19.Vids.length]), (26, .agg #[.bool r21.Trunk, .int .i64 r21.Pvid, slcV (ξ 7).1 r21.Vids.length]), (28, slcV (ξ 9).2.2 (x16 ++ ([r21] : List api_PortCfg)).length), (29, .pointer (some ⟨b2, 3, none⟩))]) (fun ξ => [(b1, .cells #[.int .u64 a0, .int .u64 a0_1, .int .u32 a0_2, slcV A00 a0_3.length, slcV A01 a0_4.length, .int .i64 a0_5.Room, .int .i64 a0_5.Life, .int .i64 a0_5.Moves, .int .i64 a0_5.Window, .int .u64 a0_6.Mac, .int .u32 a0_6.Ip, .int .i64 a0_6.Room, .int .i64 a0_6.Life, .int .i64 a0_6.Pend, .int .i64 a0_6.Tries, .int .i64 a0_6.Apart, .int .i64 a0_7, slcV A02 a0_8.length, slcV A03 a0_9.length, .int .i64 a0_10, .bool a0_11] 73 (0, 0)), ((b1 + 1), .cells #[.int .u64 0, .int .u64 0, .int .u32 0, .slice none 0 0, .slice none 0 0, .int .i64 0, .int .i64 0, .int .i64 0, .int .i64 0, .int .u64 0, .int .u32 0, .int .i64 0, .int .i64 0, .int .i64 0, .int .i64 0, .int .i64 0, .int .i64 0, .slice none 0 0, .slice none 0 0, .int .i64 0, .bool false] 73 (0, 0)), (b2, .cells #[.int .u64 a0, .int .u64 a0_1, .int .u32 a0_2, slcV (ξ 9).2.2 (x16 ++ ([r21] : List api_PortCfg)).length, slcV A01 a0_4.length, .int .i64 a0_5.Room, .int .i64 a0_5.Life, .int .i64 a0_5.Moves, .int .i64 a0_5.Window, .int .u64 a0_6.Mac, .int .u32 a0_6.Ip, .int .i64 a0_6.Room, .int .i64 a0_6.Life, .int .i64 a0_6.Pend, .int .i64 a0_6.Tries, .int .i64 a0_6.Apart, .int .i64 a0_7, slcV A02 a0_8.length, slcV A03 a0_9.length, .int .i64 a0_10, .bool a0_11] 73 (0, 0))]) (fun ξ => [OwnR 3 84 api_PortCfg.encS (ξ 9).2.2 (x16 ++ ([r21] : List api_PortCfg))]) (fun ξ => [Row 1 (pl (encI .i64)) noK (A00.s (Int.toNat x15)) t19.Vids, Row 1 (pl (encI .i64)) noK (ξ 7).1 r21.Vids, GIn api_PortCfg.inK (ξ 9).2.2 (x16 ++ ([r21] : List api_PortCfg)), Row 3 api_PortCfg.encS api_PortCfg.inK (SkL.at (ξ 8).2.1 1 (skF [(ξ 7).1] (SkL.nil (fun _ => ())))) ([r21] : List api_PortCfg)]) (AllN.cons ?_ (AllN.cons ?_ (AllN.cons ?_ (AllN.cons ?_ (AllN.cons ?_ (AllN.cons ?_ (AllN.cons ?_ (AllN.cons ?_ (AllN.cons ?_ (AllN.cons ?_ (AllN.cons ?_ (AllN.cons ?_ AllN.nil)))))))))))) (AllN.cons (VAgr.c rfl) (AllN.cons (VAgr.c rfl) (AllN.cons (VAgr.c rfl) (AllN.cons (VAgr.c rfl) (AllN.cons (VAgr.c rfl) (AllN.cons (VAgr.c rfl) (AllN.cons (VAgr.c rfl) (AllN.cons (fun t ht ξ ξ' h => by cases ht; have e7 : ξ 7 = ξ' 7 := h 7 (memN_iff.1 rfl); exact ⟨by first | rfl | simp only [e7], by first | rfl | simp only [e7]⟩) (AllN.cons (fun t ht ξ ξ' h => by cases ht; have e8 : ξ 8 = ξ' 8 := h 8 (memN_iff.1 rfl); exact ⟨by first | rfl | simp only [e8], by first | rfl | simp only [e8]⟩) (AllN.cons (fun t ht ξ ξ' h => by cases ht; have e7 : ξ 7 = ξ' 7 := h 7 (memN_iff.1 rfl); have e8 : ξ 8 = ξ' 8 := h 8 (memN_iff.1 rfl); have e9 : ξ 9 = ξ' 9 := h 9 (memN_iff.1 rfl); exact ⟨by first | rfl | simp only [e7, e8, e9], by first | rfl | simp only [e7, e8, e9]⟩) (AllN.cons (VAgr.c rfl) (AllN.cons (VAgr.c rfl) AllN.nil)))))))))))) (AllN.cons (RAgr.c rfl) (AllN.cons (RAgr.c rfl) (AllN.cons (RAgr.c rfl) (AllN.cons (RAgr.c rfl) (AllN.cons (fun r hr ξ ξ' h => by cases hr; have e7 : ξ 7 = ξ' 7 := h 7 (memN_iff.1 rfl); have e8 : ξ 8 = ξ' 8 := h 8 (memN_iff.1 rfl); exact ⟨by first | rfl | simp only [e7, e8], by first | rfl | simp only [e7, e8]⟩) (AllN.cons (fun r hr ξ ξ' h => by cases hr; have e9 : ξ 9 = ξ' 9 := h 9 (memN_iff.1 rfl); exact ⟨by first | rfl | simp only [e9], by first | rfl | simp only [e9]⟩) (AllN.cons (fun r hr ξ ξ' h => by cases hr; have e9 : ξ 9 = ξ' 9 := h 9 (memN_iff.1 rfl); exact ⟨by first | rfl | simp only [e9], by first | rfl | simp only [e9]⟩) AllN.nil))))))) (fun ξ => ?_)
  ·
   intro o t ho ht ξ Gr Γr Lr Q hk
   cases ho; cases ht
   refine WL.rn 1 [] [(19, .pointer (some ⟨b2, 3, none⟩))] ?_
   exact WL.fin (hk default)
  ·
   intro o t ho ht ξ Gr Γr Lr Q hk
   cases ho; cases ht
   refine WL.rn 1 [0] [(20, slcV A17 x16.length)] ?_
   exact WL.fin (hk default)
  ·
   intro o t ho ht ξ Gr Γr Lr Q hk
   cases ho; cases ht
   refine WL.rn 1 [] [(21, .pointer (some ⟨b1, 3, none⟩))] ?_
   exact WL.fin (hk default)
  ·
   intro o t ho ht ξ Gr Γr Lr Q hk
   cases ho; cases ht
   refine WL.rn 1 [0] [(22, slcV A00 a0_3.length)] ?_
   exact WL.fin (hk default)
  ·
   intro o t ho ht ξ Gr Γr Lr Q hk
   cases ho; cases ht
   refine WL.rn 1 [] [(23, .int .i64 x15)] ?_
   exact WL.fin (hk default)
  ·
   intro o t ho ht ξ Gr Γr Lr Q hk
   cases ho; cases ht
   refine WL.valF (φ := Row 3 api_PortCfg.encS api_PortCfg.inK A00 a0_3) (fact_at 2 rfl) (fun w hR => run_indexRowF (A := A00) (xs := a0_3) (i := x15) (k := .i64) (e := 84) (m := 3) (by kernel_rfl) (by kernel_rfl) h20 (by kernel_rfl) (by kernel_rfl) hR) (by kernel_rfl) (by kernel_rfl) rfl ?_
   exact WL.fin (hk default)
  ·
   intro o t ho ht ξ Gr Γr Lr Q hk
   cases ho; cases ht
   refine WL.valF (φ := Row 3 api_PortCfg.encS api_PortCfg.inK A00 a0_3) (fact_at 2 rfl) (fun w hR => run_loadRowFA (A := A00) (xs := a0_3) (i := x15) (j := 0) (n := 3) (vs := [.bool t19.Trunk, .int .i64 t19.Pvid, slcV (A00.s (Int.toNat x15)) t19.Vids.length]) h20 (fun _ => by kernel_rfl) (by kernel_rfl) (by kernel_rfl) (by kernel_rfl) rfl hR) (by kernel_rfl) (by kernel_rfl) rfl ?_
   refine WL.know (Row 1 (pl (encI .i64)) noK (A00.s (Int.toNat x15)) t19.Vids) [2] [Row 3 api_PortCfg.encS api_PortCfg.inK A00 a0_3] (by kernel_rfl) (fun w hψ => ((hψ _ (List.mem_singleton.2 rfl)).inner _ _ (getL_parts h20).2)) ?_
   exact WL.fin (hk default)
  ·
   intro o t ho ht ξ Gr Γr Lr Q hk
   cases ho; cases ht
   refine WL.callX (F0 := [Row 1 (pl (encI .i64)) noK (A00.s (Int.toNat x15)) t19.Vids]) [] [] [] (fun _ => _) [0] (by kernel_rfl) (gangwaylaw16_Bound_calls (A00.s (Int.toNat x15)) t19.Trunk t19.Pvid t19.Vids _ h22) rfl rfl (by kernel_rfl) (by kernel_rfl) (fun _ => rfl) (fun A23 => ?_)
   exact WL.fin (hk (A23, default, default))
  ·
   intro o t ho ht ξ Gr Γr Lr Q hk
   cases ho; cases ht
   refine WL.rh 1 [] (fun b24 => [(27, .slice (some ⟨b24, 0, none⟩) 1 1)]) (fun b24 => []) (fun b24 => [(b24, .cells #[.bool r21.Trunk, .int .i64 r21.Pvid, slcV (ξ 7).1 r21.Vids.length] 84 (0, 0))]) (fun b24 => ?_)
   exact WL.fin (hk (default, b24, default))
  ·
   intro o t ho ht ξ Gr Γr Lr Q hk
   cases ho; cases ht
   refine WL.ice (H' := []) (Row 3 api_PortCfg.encS api_PortCfg.inK (SkL.at (ξ 8).2.1 1 (skF [(ξ 7).1] (SkL.nil (fun _ => ())))) ([r21] : List api_PortCfg)) 0 (b := (ξ 8).2.1) (ob := .cells #[.bool r21.Trunk, .int .i64 r21.Pvid, slcV (ξ 7).1 r21.Vids.length] 84 (0, 0)) (by kernel_rfl) [1] [Row 1 (pl (encI .i64)) noK (ξ 7).1 r21.Vids] (by kernel_rfl) (fun w hb hψ => row_of_block hb (fun _ _ => rfl) ⟨[], by kernel_rfl⟩ (Nat.le_of_ble_eq_true rfl) (And.intro (hψ _ (List.mem_of_getElem? (i := 0) rfl)) trivial)) (by kernel_rfl) ?_
   refine WL.growApp (G' := Gr) (A := A17) (B := (SkL.at (ξ 8).2.1 1 (skF [(ξ 7).1] (SkL.nil (fun _ => ()))))) (xs := x16) (ys := ([r21] : List api_PortCfg)) (m := 3) (by_ := 40) (e := 84) (z := .agg #[.bool false, .int .i64 0, .slice none 0 0]) (f := api_PortCfg.encS) (K := api_PortCfg.inK) (d := 28) 0 rfl rfl (by kernel_rfl) (by kernel_rfl) (by kernel_rfl) (by kernel_rfl) (by kernel_rfl) (fun _ _ => rfl) (fun _ _ => rfl) (by kernel_rfl) (by kernel_rfl) (by kernel_rfl) (by kernel_rfl) (by kernel_rfl) (fact_at 3 rfl) (fact_at 0 rfl) h25 (by kernel_rfl) (fun A27 => ?_)
   refine WL.less (Φ' := (([GIn api_PortCfg.inK A27 (x16 ++ ([r21] : List api_PortCfg)), Row 3 api_PortCfg.encS api_PortCfg.inK (SkL.at (ξ 8).2.1 1 (skF [(ξ 7).1] (SkL.nil (fun _ => ())))) ([r21] : List api_PortCfg), Row 1 (pl (encI .i64)) noK (A00.s (Int.toNat x15)) t19.Vids, Row 1 (pl (encI .i64)) noK (ξ 7).1 r21.Vids, GIn api_PortCfg.inK A17 x16, GIn api_PortCfg.inK (SkL.at b3 0 (skF [] (SkL.nil (fun _ => ())))) ([] : List api_PortCfg), Row 3 api_PortCfg.encS api_PortCfg.inK A00 a0_3, Row 1 (pl encB) noK A01 a0_4, Row 3 api_Seg.encS api_Seg.inK A02 a0_8, Row 3 (pl api_Route.enc) noK A03 a0_9] ++ Γr) ++ Glob)) (fun _ h => h) ?_
   exact WL.fin (hk (default, default, A27))
  ·
   intro o t ho ht ξ Gr Γr Lr Q hk
   cases ho; cases ht
   refine WL.rn 1 [] [(29, .pointer (some ⟨b2, 3, none⟩))] ?_
   exact WL.fin (hk default)
  ·
   intro o t ho ht ξ Gr Γr Lr Q hk
   cases ho; cases ht
   refine WL.rh 1 [0] (fun _ => []) (fun _ => [(0, 3, [slcV (ξ 9).2.2 (x16 ++ ([r21] : List api_PortCfg)).length])]) (fun _ => []) (fun _ => ?_)
   exact WL.fin (hk default)
  generalize (ξ 7).1 = A23
  generalize (ξ 8).2.1 = b24
  generalize (ξ 9).2.2 = A27
  refine WP.less (Φ' := ([Row 1 (pl (encI .i64)) noK (A00.s (Int.toNat x15)) t19.Vids, Row 1 (pl (encI .i64)) noK A23 r21.Vids, GIn api_PortCfg.inK A27 (x16 ++ ([r21] : List api_PortCfg)), Row 3 api_PortCfg.encS api_PortCfg.inK (SkL.at b24 1 (skF [A23] (SkL.nil (fun _ => ())))) ([r21] : List api_PortCfg), GIn api_PortCfg.inK A17 x16, GIn api_PortCfg.inK (SkL.at b3 0 (skF [] (SkL.nil (fun _ => ())))) ([] : List api_PortCfg), Row 3 api_PortCfg.encS api_PortCfg.inK A00 a0_3, Row 1 (pl encB) noK A01 a0_4, Row 3 api_Seg.encS api_Seg.inK A02 a0_8, Row 3 (pl api_Route.enc) noK A03 a0_9] ++ Glob)) (fun _ h => h) ?_
  refine WP.leave (WP.rn [] [(4, .int .i64 (i64 (x15 + 1))), (17, .int .i64 x15), (18, .int .i64 (i64 (x15 + 1)))] ?_)
  exact WP.again' [1, 2, 3, 4] (i64 (x15 + 1), (x16 ++ ([r21] : List api_PortCfg)), A27) hM (by kernel_rfl) (fun _ h => ((h.pick [0, 1, 2] (by kernel_rfl)).lessF [2, 5, 6, 7, 8, 9] (by kernel_rfl)).pickG [0] [] 1 rfl (by decide) (by kernel_rfl))
 ·replace hM := cond_f hM c18
  refine WP.exit rfl (WP.seq (WP.region ?_))
  refine WL.rh 7 [0, 0] (fun b28 => [(30, .slice (some ⟨b28, 0, none⟩) 0 0), (32, slcV A01 a0_4.length), (36, .int .i64 (imin (a0_4.length : Int) 5))]) (fun b28 => []) (fun b28 => [(b28, .cells #[] 4 (0, 0))]) (fun b28 => ?_)
  obtain ⟨t29, h30, hM⟩ := bind_some hM
  refine WL.valF (φ := Row 1 (pl encB) noK A01 a0_4) (fact_at 3 rfl) (fun w hR => run_sliceRow_hi (A := A01) (xs := a0_4) (r := t29) (kh := .i64) (h := imin (a0_4.length : Int) 5) (e := 4) (m := 1) (by kernel_rfl) (by kernel_rfl) hR.ptr h30 (by kernel_rfl) (by kernel_rfl)) (by kernel_rfl) (by kernel_rfl) rfl ?_
  refine WL.know (Row 1 (pl encB) noK (A01.cut 0 1) t29) [3] [Row 1 (pl encB) noK A01 a0_4] (by kernel_rfl) (fun w hψ => (hψ _ (List.mem_singleton.2 rfl)).cut h30) ?_
  refine WL.growLit (H' := [(b1, .cells #[.int .u64 a0, .int .u64 a0_1, .int .u32 a0_2, slcV A00 a0_3.length, slcV A01 a0_4.length, .int .i64 a0_5.Room, .int .i64 a0_5.Life, .int .i64 a0_5.Moves, .int .i64 a0_5.Window, .int .u64 a0_6.Mac, .int .u32 a0_6.Ip, .int .i64 a0_6.Room, .int .i64 a0_6.Life, .int .i64 a0_6.Pend, .int .i64 a0_6.Tries, .int .i64 a0_6.Apart, .int .i64 a0_7, slcV A02 a0_8.length, slcV A03 a0_9.length, .int .i64 a0_10, .bool a0_11] 73 (0, 0)), ((b1 + 1), .cells #[.int .u64 0, .int .u64 0, .int .u32 0, .slice none 0 0, .slice none 0 0, .int .i64 0, .int .i64 0, .int .i64 0, .int .i64 0, .int .u64 0, .int .u32 0, .int .i64 0, .int .i64 0, .int .i64 0, .int .i64 0, .int .i64 0, .int .i64 0, .slice none 0 0, .slice none 0 0, .int .i64 0, .bool false] 73 (0, 0)), (b2, .cells #[.int .u64 a0, .int .u64 a0_1, .int .u32 a0_2, slcV A17 x16.length, slcV A01 a0_4.length, .int .i64 a0_5.Room, .int .i64 a0_5.Life, .int .i64 a0_5.Moves, .int .i64 a0_5.Window, .int .u64 a0_6.Mac, .int .u32 a0_6.Ip, .int .i64 a0_6.Room, .int .i64 a0_6.Life, .int .i64 a0_6.Pend, .int .i64 a0_6.Tries, .int .i64 a0_6.Apart, .int .i64 a0_7, slcV A02 a0_8.length, slcV A03 a0_9.length, .int .i64 a0_10, .bool a0_11] 73 (0, 0))]) (m := 1) (e := 4) (f := (pl encB)) noK 3 (b := b28) (cs := #[]) (fun _ => ()) ([] : List Bool) (by kernel_rfl) (fun _ _ => rfl) (by kernel_rfl) (by decide) [] [] (by kernel_rfl) (fun w hψ => (InK.no _ _)) (by kernel_rfl) ?_
  obtain ⟨u32, h31, hM⟩ := bind_some hM
  refine WL.growApp (G' := [OwnR 3 84 api_PortCfg.encS A17 x16]) (A := (SkL.at b28 0 (fun _ => ()))) (B := (A01.cut 0 1)) (xs := ([] : List Bool)) (ys := t29) (m := 1) (by_ := 1) (e := 4) (z := .bool false) (f := (pl encB)) (K := noK) (d := 38) 0 rfl rfl (by kernel_rfl) (by kernel_rfl) (by kernel_rfl) (by kernel_rfl) (by kernel_rfl) (fun _ _ => rfl) (fun _ _ => rfl) (by kernel_rfl) (by kernel_rfl) (by kernel_rfl) (by kernel_rfl) (by kernel_rfl) (fact_at 0 rfl) (fact_at 1 rfl) h31 (by kernel_rfl) (fun A33 => ?_)
  refine WL.less (Φ' := ([GIn noK A33 t29, GIn noK (SkL.at b28 0 (fun _ => ())) ([] : List Bool), Row 1 (pl encB) noK (A01.cut 0 1) t29, GIn api_PortCfg.inK A17 x16, GIn api_PortCfg.inK (SkL.at b3 0 (skF [] (SkL.nil (fun _ => ())))) ([] : List api_PortCfg), Row 3 api_PortCfg.encS api_PortCfg.inK A00 a0_3, Row 1 (pl encB) noK A01 a0_4, Row 3 api_Seg.encS api_Seg.inK A02 a0_8, Row 3 (pl api_Route.enc) noK A03 a0_9] ++ Glob)) (fun _ h => h) ?_
  refine WL.rh 2 [2] (fun _ => []) (fun _ => [(2, 4, [slcV A33 t29.length])]) (fun _ => []) (fun _ => ?_)
  refine WP.done (WP.seq (WP.region (WL.rn 2 [0] [(41, slcV A02 a0_8.length)] ?_)))
  obtain ⟨r34, h35, hM⟩ := bind_some hM
  refine WL.callX (F0 := [Row 3 api_Seg.encS api_Seg.inK A02 a0_8]) [] [] [false, false, false] (fun _ => _) [7] (by kernel_rfl) (gangwaylaw21_Bound_calls k A02 a0_8 _ h35) rfl rfl (by kernel_rfl) (by kernel_rfl) (fun _ => rfl) (fun A36 => ?_)
  refine WL.rh 2 [2] (fun _ => []) (fun _ => [(2, 17, [slcV A36 r34.length])]) (fun _ => []) (fun _ => ?_)
  refine WP.done (WP.seq (WP.region ?_))
  refine WL.rh 7 [0, 0] (fun b37 => [(44, .slice (some ⟨b37, 0, none⟩) 0 0), (46, slcV A03 a0_9.length), (50, .int .i64 (imin (a0_9.length : Int) 8))]) (fun b37 => []) (fun b37 => [(b37, .cells #[] 162 (0, 0))]) (fun b37 => ?_)
  obtain ⟨t38, h39, hM⟩ := bind_some hM
  refine WL.valF (φ := Row 3 (pl api_Route.enc) noK A03 a0_9) (fact_at 9 rfl) (fun w hR => run_sliceRow_hi (A := A03) (xs := a0_9) (r := t38) (kh := .i64) (h := imin (a0_9.length : Int) 8) (e := 162) (m := 3) (by kernel_rfl) (by kernel_rfl) hR.ptr h39 (by kernel_rfl) (by kernel_rfl)) (by kernel_rfl) (by kernel_rfl) rfl ?_
  refine WL.know (Row 3 (pl api_Route.enc) noK (A03.cut 0 3) t38) [9] [Row 3 (pl api_Route.enc) noK A03 a0_9] (by kernel_rfl) (fun w hψ => (hψ _ (List.mem_singleton.2 rfl)).cut h39) ?_
  refine WL.growLit (H' := [(b1, .cells #[.int .u64 a0, .int .u64 a0_1, .int .u32 a0_2, slcV A00 a0_3.length, slcV A01 a0_4.length, .int .i64 a0_5.Room, .int .i64 a0_5.Life, .int .i64 a0_5.Moves, .int .i64 a0_5.Window, .int .u64 a0_6.Mac, .int .u32 a0_6.Ip, .int .i64 a0_6.Room, .int .i64 a0_6.Life, .int .i64 a0_6.Pend, .int .i64 a0_6.Tries, .int .i64 a0_6.Apart, .int .i64 a0_7, slcV A02 a0_8.length, slcV A03 a0_9.length, .int .i64 a0_10, .bool a0_11] 73 (0, 0)), ((b1 + 1), .cells #[.int .u64 0, .int .u64 0, .int .u32 0, .slice none 0 0, .slice none 0 0, .int .i64 0, .int .i64 0, .int .i64 0, .int .i64 0, .int .u64 0, .int .u32 0, .int .i64 0, .int .i64 0, .int .i64 0, .int .i64 0, .int .i64 0, .int .i64 0, .slice none 0 0, .slice none 0 0, .int .i64 0, .bool false] 73 (0, 0)), (b2, .cells #[.int .u64 a0, .int .u64 a0_1, .int .u32 a0_2, slcV A17 x16.length, slcV A33 t29.length, .int .i64 a0_5.Room, .int .i64 a0_5.Life, .int .i64 a0_5.Moves, .int .i64 a0_5.Window, .int .u64 a0_6.Mac, .int .u32 a0_6.Ip, .int .i64 a0_6.Room, .int .i64 a0_6.Life, .int .i64 a0_6.Pend, .int .i64 a0_6.Tries, .int .i64 a0_6.Apart, .int .i64 a0_7, slcV A36 r34.length, slcV A03 a0_9.length, .int .i64 a0_10, .bool a0_11] 73 (0, 0))]) (m := 3) (e := 162) (f := (pl api_Route.enc)) noK 3 (b := b37) (cs := #[]) (fun _ => ()) ([] : List api_Route) (by kernel_rfl) (fun _ _ => rfl) (by kernel_rfl) (by decide) [] [] (by kernel_rfl) (fun w hψ => (InK.no _ _)) (by kernel_rfl) ?_
  obtain ⟨u41, h40, hM⟩ := bind_some hM
  refine WL.growApp (G' := [OwnR 1 4 (pl encB) A33 t29, OwnR 3 84 api_PortCfg.encS A17 x16]) (A := (SkL.at b37 0 (fun _ => ()))) (B := (A03.cut 0 3)) (xs := ([] : List api_Route)) (ys := t38) (m := 3) (by_ := 24) (e := 162) (z := .agg #[.int .u32 0, .int .i64 0, .int .u32 0]) (f := (pl api_Route.enc)) (K := noK) (d := 52) 0 rfl rfl (by kernel_rfl) (by kernel_rfl) (by kernel_rfl) (by kernel_rfl) (by kernel_rfl) (fun _ _ => rfl) (fun _ _ => rfl) (by kernel_rfl) (by kernel_rfl) (by kernel_rfl) (by kernel_rfl) (by kernel_rfl) (fact_at 0 rfl) (fact_at 1 rfl) h40 (by kernel_rfl) (fun A42 => ?_)
  refine WL.less (Φ' := ([GIn noK A42 t38, GIn noK (SkL.at b37 0 (fun _ => ())) ([] : List api_Route), Row 3 (pl api_Route.enc) noK (A03.cut 0 3) t38, Row 3 api_Seg.encS api_Seg.inK A36 r34, GIn noK A33 t29, GIn noK (SkL.at b28 0 (fun _ => ())) ([] : List Bool), Row 1 (pl encB) noK (A01.cut 0 1) t29, GIn api_PortCfg.inK A17 x16, GIn api_PortCfg.inK (SkL.at b3 0 (skF [] (SkL.nil (fun _ => ())))) ([] : List api_PortCfg), Row 3 api_PortCfg.encS api_PortCfg.inK A00 a0_3, Row 1 (pl encB) noK A01 a0_4, Row 3 api_Seg.encS api_Seg.inK A02 a0_8, Row 3 (pl api_Route.enc) noK A03 a0_9] ++ Glob)) (fun _ h => h) ?_
  refine WL.rh 2 [2] (fun _ => []) (fun _ => [(2, 18, [slcV A42 t38.length])]) (fun _ => []) (fun _ => ?_)
  refine WP.done (WP.seq ?_)
  refine WP.rh [0, 2] (fun _ => []) (fun _ => [(2, 5, [.int .i64 (imin a0_5.Room 64)])]) (fun _ => []) (fun _ => ?_)
  refine WP.seq ?_
  refine WP.rh [0, 2] (fun _ => []) (fun _ => [(2, 11, [.int .i64 (imin a0_6.Room 64)])]) (fun _ => []) (fun _ => ?_)
  refine WP.kp [false, true, true] ?_
  refine WP.seq ?_
  refine WP.rh [1, 1, 1, 1, 1, 1, 1, 1, 1, 1, 1, 1, 1, 1, 1, 1, 1, 1, 1, 1, 1, 0, 0, 0, 0, 0, 0, 0, 0, 0, 0, 0, 0, 0, 0, 0, 0, 0, 0, 0, 0, 0] (fun _ => []) (fun _ => [(0, 0, [.int .u64 a0, .int .u64 a0_1, .int .u32 a0_2, slcV A17 x16.length, slcV A33 t29.length, .int .i64 (imin a0_5.Room 64), .int .i64 a0_5.Life, .int .i64 a0_5.Moves, .int .i64 a0_5.Window, .int .u64 a0_6.Mac, .int .u32 a0_6.Ip, .int .i64 (imin a0_6.Room 64), .int .i64 a0_6.Life, .int .i64 a0_6.Pend, .int .i64 a0_6.Tries, .int .i64 a0_6.Apart, .int .i64 a0_7, slcV A36 r34.length, slcV A42 t38.length, .int .i64 a0_10, .bool a0_11])]) (fun _ => []) (fun _ => ?_)
  refine WP.kp [true, false] ?_
  refine WP.growIce (G' := [OwnR 3 162 (pl api_Route.enc) A42 t38, OwnR 1 4 (pl encB) A33 t29]) (m := 3) (e := 84) (f := api_PortCfg.encS) (K := api_PortCfg.inK) (A := A17) (xs := x16) 2 7 (by kernel_rfl) (by kernel_rfl) (fun _ _ => rfl) (by kernel_rfl) ?_
  refine WP.growIce (G' := [OwnR 3 162 (pl api_Route.enc) A42 t38]) (m := 1) (e := 4) (f := (pl encB)) (K := noK) (A := A33) (xs := t29) 1 5 (by kernel_rfl) (by kernel_rfl) (fun _ _ => rfl) (by kernel_rfl) ?_
  refine WP.growIce (G' := []) (m := 3) (e := 162) (f := (pl api_Route.enc)) (K := noK) (A := A42) (xs := t38) 0 2 (by kernel_rfl) (by kernel_rfl) (fun _ _ => rfl) (by kernel_rfl) ?_
  obtain rfl := Option.some.inj hM
  exact WP.ret [0, 0, 0, 0, 0, 0, 0, 0, 0, 0, 0, 0, 0, 0, 0, 0, 0, 0, 0, 0, 0] [(b1 + 1), (b1 + 1), (b1 + 1), (b1 + 1), (b1 + 1), (b1 + 1), (b1 + 1), (b1 + 1), (b1 + 1), (b1 + 1), (b1 + 1), (b1 + 1), (b1 + 1), (b1 + 1), (b1 + 1), (b1 + 1), (b1 + 1), (b1 + 1), (b1 + 1), (b1 + 1), (b1 + 1)] (.agg #[.int .u64 a0, .int .u64 a0_1, .int .u32 a0_2, slcV A17 x16.length, slcV A33 t29.length, .int .i64 (imin a0_5.Room 64), .int .i64 a0_5.Life, .int .i64 a0_5.Moves, .int .i64 a0_5.Window, .int .u64 a0_6.Mac, .int .u32 a0_6.Ip, .int .i64 (imin a0_6.Room 64), .int .i64 a0_6.Life, .int .i64 a0_6.Pend, .int .i64 a0_6.Tries, .int .i64 a0_6.Apart, .int .i64 a0_7, slcV A36 r34.length, slcV A42 t38.length, .int .i64 a0_10, .bool a0_11]) (by kernel_rfl) (fun w' hw => ⟨(A17, A33, A36, A42), rfl, (hw.pick [] (by kernel_rfl)).less (sub_ret [2, 1, 6, 0] [12, 13, 14, 15] (by kernel_rfl) (by kernel_rfl))⟩)
def gangwaylaw27_Bound.l1 (a0 : (List api_Gate)) (k : Nat) : Nat → (List api_Gate) → Int → Option ((List api_Gate))
 | 0, _, _ => none
 | n + 1, x2, x4 =>
  bif ((decide (x4 < (a0.length : Int))) && (decide (x4 < 3))) then
   (getL a0.length a0 x4).bind fun t6 =>
   (gangwaylaw24_Bound.f k t6.Bridge t6.Mac t6.Ip t6.Ports t6.Edges t6.Keep t6.Near t6.Heard t6.Segs t6.Routes t6.Most t6.Answers).bind fun r8 =>
   (roomL 232 (x2 ++ ([r8] : List api_Gate)).length).bind fun u13 =>
   gangwaylaw27_Bound.l1 a0 k n (x2 ++ ([r8] : List api_Gate)) (i64 (x4 + 1))
  else
   some x2
def gangwaylaw27_Bound.f (k : Nat) (a0 : (List api_Gate)) : Option ((List api_Gate)) :=
 gangwaylaw27_Bound.l1 a0 k k ([] : List api_Gate) 0
theorem gangwaylaw27_Bound_calls (k : Nat) (A00 : SkL ((SkL (SkL Unit)) × (SkL Unit) × (SkL (SkL Unit)) × (SkL Unit))) (a0 : (List api_Gate)) (r : (List api_Gate)) (h : gangwaylaw27_Bound.f k a0 = some r) : Does Tryz.prog 12 #[slcV A00 a0.length] [] ([Row 21 api_Gate.encS api_Gate.inK A00 a0] ++ Glob) (fun x : (SkL ((SkL (SkL Unit)) × (SkL Unit) × (SkL (SkL Unit)) × (SkL Unit))) => slcV x r.length) (fun x => []) (fun _ => []) (fun x => [Row 21 api_Gate.encS api_Gate.inK x r] ++ ([Row 21 api_Gate.encS api_Gate.inK A00 a0] ++ Glob)) := by
 intro w Z hS
 refine callsS (args := [slcV A00 a0.length]) (L := [(0, slcV A00 a0.length)]) (N := 25) Tryz.func12 hS ?_
 have hM := h
 clear h hS
 unfold gangwaylaw27_Bound.f at hM
 refine WP.seq (WP.rn [] [(2, .slice none 0 0)] ?_)
 refine WP.seq ?_
 refine WP.rh [] (fun b1 => [(3, .slice (some ⟨b1, 0, none⟩) 0 0)]) (fun b1 => []) (fun b1 => [(b1, .cells #[] 73 (0, 0))]) (fun b1 => ?_)
 refine WP.seq (WP.seq (WP.rn [] [(4, .int .i64 0)] ?_))
 refine WP.block ?_
 refine WP.growLit (H' := []) (m := 21) (e := 73) (f := api_Gate.encS) api_Gate.inK 0 (b := b1) (cs := #[]) (skF [] ((SkL.nil (fun _ => (SkL.nil (fun _ => ())))), (SkL.nil (fun _ => ())), (SkL.nil (fun _ => (SkL.nil (fun _ => ())))), (SkL.nil (fun _ => ())))) ([] : List api_Gate) (by kernel_rfl) (fun _ _ => rfl) (by kernel_rfl) (by decide) [] [] (by kernel_rfl) (fun w hψ => trivial) (by kernel_rfl) ?_
 refine WP.sub [0, 2, 3, 4] (L' := [(0, slcV A00 a0.length), (2, .slice none 0 0), (3, slcV (SkL.at b1 0 (skF [] ((SkL.nil (fun _ => (SkL.nil (fun _ => ())))), (SkL.nil (fun _ => ())), (SkL.nil (fun _ => (SkL.nil (fun _ => ())))), (SkL.nil (fun _ => ()))))) ([] : List api_Gate).length), (4, .int .i64 0)]) (by kernel_rfl) ?_
 refine WP.lessF [0, 0, 1] (F' := [GIn api_Gate.inK (SkL.at b1 0 (skF [] ((SkL.nil (fun _ => (SkL.nil (fun _ => ())))), (SkL.nil (fun _ => ())), (SkL.nil (fun _ => (SkL.nil (fun _ => ())))), (SkL.nil (fun _ => ()))))) ([] : List api_Gate), GIn api_Gate.inK (SkL.at b1 0 (skF [] ((SkL.nil (fun _ => (SkL.nil (fun _ => ())))), (SkL.nil (fun _ => ())), (SkL.nil (fun _ => (SkL.nil (fun _ => ())))), (SkL.nil (fun _ => ()))))) ([] : List api_Gate), Row 21 api_Gate.encS api_Gate.inK A00 a0]) (by kernel_rfl) ?_
 refine WP.loop (σ := (List api_Gate) × SkL ((SkL (SkL Unit)) × (SkL Unit) × (SkL (SkL Unit)) × (SkL Unit)) × Int) (fun n st => gangwaylaw27_Bound.l1 a0 k n st.1 st.2.2) r (fun st => [(0, slcV A00 a0.length), (2, .slice none 0 0), (3, slcV st.2.1 st.1.length), (4, .int .i64 st.2.2)]) (fun st => Sat w Z [] [OwnR 21 73 api_Gate.encS st.2.1 st.1] ([GIn api_Gate.inK st.2.1 st.1, GIn api_Gate.inK (SkL.at b1 0 (skF [] ((SkL.nil (fun _ => (SkL.nil (fun _ => ())))), (SkL.nil (fun _ => ())), (SkL.nil (fun _ => (SkL.nil (fun _ => ())))), (SkL.nil (fun _ => ()))))) ([] : List api_Gate), Row 21 api_Gate.encS api_Gate.inK A00 a0] ++ Glob)) (st := (([] : List api_Gate), (SkL.at b1 0 (skF [] ((SkL.nil (fun _ => (SkL.nil (fun _ => ())))), (SkL.nil (fun _ => ())), (SkL.nil (fun _ => (SkL.nil (fun _ => ())))), (SkL.nil (fun _ => ()))))), 0)) (fun n st hM => ?_) hM
 rcases n with _ | n
 ·exact nomatch (show (none : Option _) = some r from hM)
 obtain ⟨x2, A3, x4⟩ := st
 replace hM : gangwaylaw27_Bound.l1 a0 k (n + 1) x2 x4 = some r := hM
 rw [gangwaylaw27_Bound.l1] at hM
 try dsimp only
 refine WP.seq (WP.seq (WP.region (WL.rn 5 [] [(6, .int .i64 x4), (7, slcV A00 a0.length), (8, .int .i64 (a0.length : Int)), (9, .bool (decide (x4 < (a0.length : Int)))), (10, .bool (decide (x4 < (a0.length : Int))))] ?_)))
 refine WL.bo 10 (decide (x4 < (a0.length : Int))) 3 [] [] (fun b' => [(13, .bool (b' && (decide (x4 < 3))))]) ?_
 refine WP.done ?_
 refine WP.cond ((decide (x4 < (a0.length : Int))) && (decide (x4 < 3))) rfl rfl (fun c5 => ?_) (fun c5 => ?_)
 ·replace hM := cond_t hM c5
  refine WP.skip (WP.seq (WP.block (WP.region (WL.rn 3 [] [(16, slcV A3 x2.length), (17, slcV A00 a0.length), (18, .int .i64 x4)] ?_))))
  obtain ⟨t6, h7, hM⟩ := bind_some hM
  refine WL.valF (φ := Row 21 api_Gate.encS api_Gate.inK A00 a0) (fact_at 2 rfl) (fun w hR => run_indexRowF (A := A00) (xs := a0) (i := x4) (k := .i64) (e := 73) (m := 21) (by kernel_rfl) (by kernel_rfl) h7 (by kernel_rfl) (by kernel_rfl) hR) (by kernel_rfl) (by kernel_rfl) rfl ?_
  refine WL.valF (φ := Row 21 api_Gate.encS api_Gate.inK A00 a0) (fact_at 2 rfl) (fun w hR => run_loadRowFA (A := A00) (xs := a0) (i := x4) (j := 0) (n := 21) (vs := [.int .u64 t6.Bridge, .int .u64 t6.Mac, .int .u32 t6.Ip, slcV ((A00.s (Int.toNat x4)).1) t6.Ports.length, slcV ((A00.s (Int.toNat x4)).2.1) t6.Edges.length, .int .i64 t6.Keep.Room, .int .i64 t6.Keep.Life, .int .i64 t6.Keep.Moves, .int .i64 t6.Keep.Window, .int .u64 t6.Near.Mac, .int .u32 t6.Near.Ip, .int .i64 t6.Near.Room, .int .i64 t6.Near.Life, .int .i64 t6.Near.Pend, .int .i64 t6.Near.Tries, .int .i64 t6.Near.Apart, .int .i64 t6.Heard, slcV ((A00.s (Int.toNat x4)).2.2.1) t6.Segs.length, slcV ((A00.s (Int.toNat x4)).2.2.2) t6.Routes.length, .int .i64 t6.Most, .bool t6.Answers]) h7 (fun _ => by kernel_rfl) (by kernel_rfl) (by kernel_rfl) (by kernel_rfl) rfl hR) (by kernel_rfl) (by kernel_rfl) rfl ?_
  refine WL.know (Row 3 api_PortCfg.encS api_PortCfg.inK ((A00.s (Int.toNat x4)).1) t6.Ports) [2] [Row 21 api_Gate.encS api_Gate.inK A00 a0] (by kernel_rfl) (fun w hψ => ((hψ _ (List.mem_singleton.2 rfl)).inner _ _ (getL_parts h7).2).1) ?_
  refine WL.know (Row 1 (pl encB) noK ((A00.s (Int.toNat x4)).2.1) t6.Edges) [3] [Row 21 api_Gate.encS api_Gate.inK A00 a0] (by kernel_rfl) (fun w hψ => ((hψ _ (List.mem_singleton.2 rfl)).inner _ _ (getL_parts h7).2).2.1) ?_
  refine WL.know (Row 3 api_Seg.encS api_Seg.inK ((A00.s (Int.toNat x4)).2.2.1) t6.Segs) [4] [Row 21 api_Gate.encS api_Gate.inK A00 a0] (by kernel_rfl) (fun w hψ => ((hψ _ (List.mem_singleton.2 rfl)).inner _ _ (getL_parts h7).2).2.2.1) ?_
  refine WL.know (Row 3 (pl api_Route.enc) noK ((A00.s (Int.toNat x4)).2.2.2) t6.Routes) [5] [Row 21 api_Gate.encS api_Gate.inK A00 a0] (by kernel_rfl) (fun w hψ => ((hψ _ (List.mem_singleton.2 rfl)).inner _ _ (getL_parts h7).2).2.2.2) ?_
  obtain ⟨r8, h9, hM⟩ := bind_some hM
  refine WL.callX (F0 := [Row 3 api_PortCfg.encS api_PortCfg.inK ((A00.s (Int.toNat x4)).1) t6.Ports, Row 1 (pl encB) noK ((A00.s (Int.toNat x4)).2.1) t6.Edges, Row 3 api_Seg.encS api_Seg.inK ((A00.s (Int.toNat x4)).2.2.1) t6.Segs, Row 3 (pl api_Route.enc) noK ((A00.s (Int.toNat x4)).2.2.2) t6.Routes]) [] [] [] (fun _ => _) [3, 2, 1, 0] (by kernel_rfl) (gangwaylaw24_Bound_calls k ((A00.s (Int.toNat x4)).1) ((A00.s (Int.toNat x4)).2.1) ((A00.s (Int.toNat x4)).2.2.1) ((A00.s (Int.toNat x4)).2.2.2) t6.Bridge t6.Mac t6.Ip t6.Ports t6.Edges t6.Keep t6.Near t6.Heard t6.Segs t6.Routes t6.Most t6.Answers _ h9) rfl rfl (by kernel_rfl) (by kernel_rfl) (fun _ => rfl) (fun A10 => ?_)
  refine WL.rh 1 [] (fun b11 => [(22, .slice (some ⟨b11, 0, none⟩) 1 1)]) (fun b11 => []) (fun b11 => [(b11, .cells #[.int .u64 r8.Bridge, .int .u64 r8.Mac, .int .u32 r8.Ip, slcV A10.1 r8.Ports.length, slcV A10.2.1 r8.Edges.length, .int .i64 r8.Keep.Room, .int .i64 r8.Keep.Life, .int .i64 r8.Keep.Moves, .int .i64 r8.Keep.Window, .int .u64 r8.Near.Mac, .int .u32 r8.Near.Ip, .int .i64 r8.Near.Room, .int .i64 r8.Near.Life, .int .i64 r8.Near.Pend, .int .i64 r8.Near.Tries, .int .i64 r8.Near.Apart, .int .i64 r8.Heard, slcV A10.2.2.1 r8.Segs.length, slcV A10.2.2.2 r8.Routes.length, .int .i64 r8.Most, .bool r8.Answers] 73 (0, 0))]) (fun b11 => ?_)
  refine WL.ice (H' := []) (Row 21 api_Gate.encS api_Gate.inK (SkL.at b11 1 (skF [(A10.1, A10.2.1, A10.2.2.1, A10.2.2.2)] ((SkL.nil (fun _ => (SkL.nil (fun _ => ())))), (SkL.nil (fun _ => ())), (SkL.nil (fun _ => (SkL.nil (fun _ => ())))), (SkL.nil (fun _ => ()))))) ([r8] : List api_Gate)) 0 (b := b11) (ob := .cells #[.int .u64 r8.Bridge, .int .u64 r8.Mac, .int .u32 r8.Ip, slcV A10.1 r8.Ports.length, slcV A10.2.1 r8.Edges.length, .int .i64 r8.Keep.Room, .int .i64 r8.Keep.Life, .int .i64 r8.Keep.Moves, .int .i64 r8.Keep.Window, .int .u64 r8.Near.Mac, .int .u32 r8.Near.Ip, .int .i64 r8.Near.Room, .int .i64 r8.Near.Life, .int .i64 r8.Near.Pend, .int .i64 r8.Near.Tries, .int .i64 r8.Near.Apart, .int .i64 r8.Heard, slcV A10.2.2.1 r8.Segs.length, slcV A10.2.2.2 r8.Routes.length, .int .i64 r8.Most, .bool r8.Answers] 73 (0, 0)) (by kernel_rfl) [0, 1, 2, 3] [Row 3 api_PortCfg.encS api_PortCfg.inK A10.1 r8.Ports, Row 1 (pl encB) noK A10.2.1 r8.Edges, Row 3 api_Seg.encS api_Seg.inK A10.2.2.1 r8.Segs, Row 3 (pl api_Route.enc) noK A10.2.2.2 r8.Routes] (by kernel_rfl) (fun w hb hψ => row_of_block hb (fun _ _ => rfl) ⟨[], by kernel_rfl⟩ (Nat.le_of_ble_eq_true rfl) (And.intro (And.intro (hψ _ (List.mem_of_getElem? (i := 0) rfl)) (And.intro (hψ _ (List.mem_of_getElem? (i := 1) rfl)) (And.intro (hψ _ (List.mem_of_getElem? (i := 2) rfl)) (hψ _ (List.mem_of_getElem? (i := 3) rfl))))) trivial)) (by kernel_rfl) ?_
  obtain ⟨u13, h12, hM⟩ := bind_some hM
  refine WL.growApp (G' := []) (A := A3) (B := (SkL.at b11 1 (skF [(A10.1, A10.2.1, A10.2.2.1, A10.2.2.2)] ((SkL.nil (fun _ => (SkL.nil (fun _ => ())))), (SkL.nil (fun _ => ())), (SkL.nil (fun _ => (SkL.nil (fun _ => ())))), (SkL.nil (fun _ => ())))))) (xs := x2) (ys := ([r8] : List api_Gate)) (m := 21) (by_ := 232) (e := 73) (z := .agg #[.int .u64 0, .int .u64 0, .int .u32 0, .slice none 0 0, .slice none 0 0, .int .i64 0, .int .i64 0, .int .i64 0, .int .i64 0, .int .u64 0, .int .u32 0, .int .i64 0, .int .i64 0, .int .i64 0, .int .i64 0, .int .i64 0, .int .i64 0, .slice none 0 0, .slice none 0 0, .int .i64 0, .bool false]) (f := api_Gate.encS) (K := api_Gate.inK) (d := 23) 0 rfl rfl (by kernel_rfl) (by kernel_rfl) (by kernel_rfl) (by kernel_rfl) (by kernel_rfl) (fun _ _ => rfl) (fun _ _ => rfl) (by kernel_rfl) (by kernel_rfl) (by kernel_rfl) (by kernel_rfl) (by kernel_rfl) (fact_at 9 rfl) (fact_at 0 rfl) h12 (by kernel_rfl) (fun A14 => ?_)
  refine WL.less (Φ' := ([GIn api_Gate.inK A14 (x2 ++ ([r8] : List api_Gate)), Row 21 api_Gate.encS api_Gate.inK (SkL.at b11 1 (skF [(A10.1, A10.2.1, A10.2.2.1, A10.2.2.2)] ((SkL.nil (fun _ => (SkL.nil (fun _ => ())))), (SkL.nil (fun _ => ())), (SkL.nil (fun _ => (SkL.nil (fun _ => ())))), (SkL.nil (fun _ => ()))))) ([r8] : List api_Gate), Row 3 api_PortCfg.encS api_PortCfg.inK A10.1 r8.Ports, Row 1 (pl encB) noK A10.2.1 r8.Edges, Row 3 api_Seg.encS api_Seg.inK A10.2.2.1 r8.Segs, Row 3 (pl api_Route.enc) noK A10.2.2.2 r8.Routes, Row 3 (pl api_Route.enc) noK ((A00.s (Int.toNat x4)).2.2.2) t6.Routes, Row 3 api_Seg.encS api_Seg.inK ((A00.s (Int.toNat x4)).2.2.1) t6.Segs, Row 1 (pl encB) noK ((A00.s (Int.toNat x4)).2.1) t6.Edges, Row 3 api_PortCfg.encS api_PortCfg.inK ((A00.s (Int.toNat x4)).1) t6.Ports, GIn api_Gate.inK A3 x2, GIn api_Gate.inK (SkL.at b1 0 (skF [] ((SkL.nil (fun _ => (SkL.nil (fun _ => ())))), (SkL.nil (fun _ => ())), (SkL.nil (fun _ => (SkL.nil (fun _ => ())))), (SkL.nil (fun _ => ()))))) ([] : List api_Gate), Row 21 api_Gate.encS api_Gate.inK A00 a0] ++ Glob)) (fun _ h => h) ?_
  refine WL.rn 1 [] [(3, slcV A14 (x2 ++ ([r8] : List api_Gate)).length)] ?_
  refine WP.done (WP.leave (WP.rn [] [(4, .int .i64 (i64 (x4 + 1))), (14, .int .i64 x4), (15, .int .i64 (i64 (x4 + 1)))] ?_))
  exact WP.again' [0, 2, 3, 4] ((x2 ++ ([r8] : List api_Gate)), A14, i64 (x4 + 1)) hM (by kernel_rfl) (fun _ h => ((h.pick [] (by kernel_rfl)).lessF [0, 11, 12] (by kernel_rfl)).pickG [0] [] 1 rfl (by decide) (by kernel_rfl))
 ·replace hM := cond_f hM c5
  refine WP.exit rfl (WP.seq (WP.rn [] [(2, slcV A3 x2.length)] ?_))
  refine WP.growIce (G' := []) (m := 21) (e := 73) (f := api_Gate.encS) (K := api_Gate.inK) (A := A3) (xs := x2) 0 0 (by kernel_rfl) (by kernel_rfl) (fun _ _ => rfl) (by kernel_rfl) ?_
  obtain rfl := Option.some.inj hM
  exact WP.ret [] [] (slcV A3 x2.length) (by kernel_rfl) (fun w' hw => ⟨A3, rfl, (hw.pick [] (by kernel_rfl)).less (sub_ret [0] [3] (by kernel_rfl) (by kernel_rfl))⟩)
def gangwayref16_among.l1 (a0 : (List Int)) (a1 : Int) : Nat → Bool → Int → Option (Bool)
 | 0, _, _ => none
 | n + 1, x1, x2 =>
  bif decide (x2 < (a0.length : Int)) then
   (getL a0.length a0 x2).bind fun t4 =>
   bif (t4 == a1) then
    some true
   else
    gangwayref16_among.l1 a0 a1 n x1 (i64 (x2 + 1))
  else
   some false
def gangwayref16_among.f (k : Nat) (a0 : (List Int)) (a1 : Int) : Option (Bool) :=
 gangwayref16_among.l1 a0 a1 k false 0
theorem gangwayref16_among_calls (k : Nat) (A00 : SkL Unit) (a0 : (List Int)) (a1 : Int) (r : Bool) (h : gangwayref16_among.f k a0 a1 = some r) : Pure Tryz.prog ([Row 1 (pl (encI .i64)) noK A00 a0] ++ Glob) 129 #[slcV A00 a0.length, .int .i64 a1] (.bool r) := by
 intro w Z hS
 refine callsS (args := [slcV A00 a0.length, .int .i64 a1]) (L := [(0, slcV A00 a0.length), (1, .int .i64 a1)]) (N := 18) Tryz.func129 hS ?_
 have hM := h
 clear h hS
 unfold gangwayref16_among.f at hM
 refine WP.seq (WP.rn [] [(4, .bool false)] ?_)
 refine WP.seq (WP.seq (WP.rn [] [(5, .int .i64 0)] ?_))
 refine WP.block (WP.sub [0, 1, 4, 5] (L' := [(0, slcV A00 a0.length), (1, .int .i64 a1), (4, .bool false), (5, .int .i64 0)]) (by kernel_rfl) ?_)
 refine WP.lessF [0] (F' := [Row 1 (pl (encI .i64)) noK A00 a0]) (by kernel_rfl) ?_
 refine WP.loop (σ := Bool × Int) (fun n st => gangwayref16_among.l1 a0 a1 n st.1 st.2) r (fun st => [(0, slcV A00 a0.length), (1, .int .i64 a1), (4, .bool st.1), (5, .int .i64 st.2)]) (fun st => Sat w Z [] [] ([Row 1 (pl (encI .i64)) noK A00 a0] ++ Glob)) (st := (false, 0)) (fun n st hM => ?_) hM
 rcases n with _ | n
 ·exact nomatch (show (none : Option _) = some r from hM)
 obtain ⟨x1, x2⟩ := st
 replace hM : gangwayref16_among.l1 a0 a1 (n + 1) x1 x2 = some r := hM
 rw [gangwayref16_among.l1] at hM
 try dsimp only
 refine WP.seq (WP.seq (WP.rn [] [(6, .int .i64 x2), (7, slcV A00 a0.length), (8, .int .i64 (a0.length : Int)), (9, .bool (decide (x2 < (a0.length : Int))))] ?_))
 refine WP.cond (decide (x2 < (a0.length : Int))) rfl rfl (fun c3 => ?_) (fun c3 => ?_)
 ·replace hM := cond_t hM c3
  refine WP.skip (WP.seq (WP.block (WP.seq (WP.region (WL.rn 2 [] [(12, slcV A00 a0.length), (13, .int .i64 x2)] ?_)))))
  obtain ⟨t4, h5, hM⟩ := bind_some hM
  refine WL.valF (φ := Row 1 (pl (encI .i64)) noK A00 a0) (fact_at 0 rfl) (fun w hR => run_indexRowF (A := A00) (xs := a0) (i := x2) (k := .i64) (e := 3) (m := 1) (by kernel_rfl) (by kernel_rfl) h5 (by kernel_rfl) (by kernel_rfl) hR) (by kernel_rfl) (by kernel_rfl) rfl ?_
  refine WL.valF (φ := Row 1 (pl (encI .i64)) noK A00 a0) (fact_at 0 rfl) (fun w hR => run_loadRowF (A := A00) (xs := a0) (i := x2) (j := 0) (v := .int .i64 t4) h5 (fun _ => by kernel_rfl) (by kernel_rfl) (by kernel_rfl) hR) (by kernel_rfl) (by kernel_rfl) rfl ?_
  refine WL.rn 2 [] [(16, .int .i64 a1), (17, .bool (t4 == a1))] ?_
  refine WP.done ?_
  refine WP.cond (t4 == a1) rfl rfl (fun c6 => ?_) (fun c6 => ?_)
  ·replace hM := cond_t hM c6
   refine WP.seq (WP.rn [] [(4, .bool true)] ?_)
   obtain rfl := Option.some.inj hM
   exact WP.retF [] [] [0]
  ·replace hM := cond_f hM c6
   refine WP.skip (WP.leave (WP.rn [] [(5, .int .i64 (i64 (x2 + 1))), (10, .int .i64 x2), (11, .int .i64 (i64 (x2 + 1)))] ?_))
   exact WP.again' [0, 1, 4, 5] (x1, i64 (x2 + 1)) hM (by kernel_rfl) (fun _ h => (h.pick [] (by kernel_rfl)).lessF [0] (by kernel_rfl))
 ·replace hM := cond_f hM c3
  refine WP.exit rfl (WP.seq (WP.rn [] [(4, .bool false)] ?_))
  obtain rfl := Option.some.inj hM
  exact WP.retF [] [] [0]
def gangwayref16_Right.k1 (a0_2 : (List Int)) (x5 : Int) (x3 : Bool) (rec_l2 : Bool → Int → Int → Option (Bool)) (x12 : Bool) (x13 : Bool) : Option (Bool) :=
 bif x13 then
  some false
 else
  (getL a0_2.length a0_2 x5).bind fun t15 =>
  rec_l2 x3 t15 (i64 (x5 + 1))
def gangwayref16_Right.k3 (x20 : Bool) : Option (Bool) :=
 some x20
def gangwayref16_Right.l2 (a0_2 : (List Int)) (a0_1 : Int) (k : Nat) : Nat → Bool → Int → Int → Option (Bool)
 | 0, _, _, _ => none
 | n + 1, x3, x4, x5 =>
  bif decide (x5 < (a0_2.length : Int)) then
   (getL a0_2.length a0_2 x5).bind fun t7 =>
   bif decide (t7 ≤ x4) then
    gangwayref16_Right.k1 a0_2 x5 x3 (gangwayref16_Right.l2 a0_2 a0_1 k n) true true
   else
    (getL a0_2.length a0_2 x5).bind fun t10 =>
    gangwayref16_Right.k1 a0_2 x5 x3 (gangwayref16_Right.l2 a0_2 a0_1 k n) false (decide (t10 > 4094))
  else
   bif (a0_1 == 0) then
    gangwayref16_Right.k3 true
   else
    (gangwayref16_among.f k a0_2 a0_1).bind fun r18 =>
    gangwayref16_Right.k3 r18
def gangwayref16_Right.f (k : Nat) (a0 : Bool) (a0_1 : Int) (a0_2 : (List Int)) : Option (Bool) :=
 bif !a0 then
  some (((decide (a0_1 ≥ 1)) && (decide (a0_1 ≤ 4094))) && ((a0_2.length : Int) == 0))
 else
  gangwayref16_Right.l2 a0_2 a0_1 k k false 0 0
theorem gangwayref16_Right_calls (k : Nat) (A00 : SkL Unit) (a0 : Bool) (a0_1 : Int) (a0_2 : (List Int)) (r : Bool) (h : gangwayref16_Right.f k a0 a0_1 a0_2 = some r) : Pure Tryz.prog ([Row 1 (pl (encI .i64)) noK A00 a0_2] ++ Glob) 107 #[.agg #[.bool a0, .int .i64 a0_1, slcV A00 a0_2.length]] (.bool r) := by
 intro w Z hS
 refine callsS (args := [.agg #[.bool a0, .int .i64 a0_1, slcV A00 a0_2.length]]) (L := [(0, .agg #[.bool a0, .int .i64 a0_1, slcV A00 a0_2.length])]) (N := 59) Tryz.func107 hS ?_
 have hM := h
 clear h hS
 unfold gangwayref16_Right.f at hM
 refine WP.seq ?_
 refine WP.rh [] (fun b1 => [(1, .pointer (some ⟨b1, 0, none⟩)), (2, .bool false)]) (fun b1 => []) (fun b1 => [(b1, .cells #[.bool a0, .int .i64 a0_1, slcV A00 a0_2.length] 84 (0, 0))]) (fun b1 => ?_)
 refine WP.seq (WP.seq (WP.rn [0] [(7, .bool (!a0))] ?_))
 refine WP.cond (!a0) rfl rfl (fun c2 => ?_) (fun c2 => ?_)
 ·replace hM := cond_t hM c2
  refine WP.seq (WP.region (WL.rn 4 [0] [(11, .bool (decide (a0_1 ≥ 1)))] ?_))
  refine WL.bo 11 (decide (a0_1 ≥ 1)) 4 [0] [] (fun b' => [(15, .bool (b' && (decide (a0_1 ≤ 4094))))]) ?_
  refine WL.rn 1 [] [(16, .bool ((decide (a0_1 ≥ 1)) && (decide (a0_1 ≤ 4094))))] ?_
  refine WL.bo 16 ((decide (a0_1 ≥ 1)) && (decide (a0_1 ≤ 4094))) 5 [0] [] (fun b' => [(21, .bool (b' && ((a0_2.length : Int) == 0)))]) ?_
  refine WL.rn 1 [] [(2, .bool (((decide (a0_1 ≥ 1)) && (decide (a0_1 ≤ 4094))) && ((a0_2.length : Int) == 0)))] ?_
  refine WP.done ?_
  obtain rfl := Option.some.inj hM
  exact WP.retF [] [] [0]
 ·replace hM := cond_f hM c2
  refine WP.skip (WP.seq (WP.rn [] [(3, .int .i64 0)] ?_))
  refine WP.seq (WP.seq (WP.rn [] [(4, .int .i64 0)] ?_))
  refine WP.block ?_
  refine WP.sub [1, 2, 3, 4] (L' := [(1, .pointer (some ⟨b1, 0, none⟩)), (2, .bool false), (3, .int .i64 0), (4, .int .i64 0)]) (by kernel_rfl) ?_
  refine WP.lessF [0] (F' := [Row 1 (pl (encI .i64)) noK A00 a0_2]) (by kernel_rfl) ?_
  refine WP.loop (σ := Bool × Int × Int) (fun n st => gangwayref16_Right.l2 a0_2 a0_1 k n st.1 st.2.1 st.2.2) r (fun st => [(1, .pointer (some ⟨b1, 0, none⟩)), (2, .bool st.1), (3, .int .i64 st.2.1), (4, .int .i64 st.2.2)]) (fun st => Sat w Z [(b1, .cells #[.bool a0, .int .i64 a0_1, slcV A00 a0_2.length] 84 (0, 0))] [] ([Row 1 (pl (encI .i64)) noK A00 a0_2] ++ Glob)) (st := (false, 0, 0)) (fun n st hM => ?_) hM
  rcases n with _ | n
  ·exact nomatch (show (none : Option _) = some r from hM)
  obtain ⟨x3, x4, x5⟩ := st
  replace hM : gangwayref16_Right.l2 a0_2 a0_1 k (n + 1) x3 x4 x5 = some r := hM
  rw [gangwayref16_Right.l2] at hM
  try dsimp only
  refine WP.seq (WP.seq ?_)
  refine WP.rn [0] [(22, .int .i64 x5), (23, .pointer (some ⟨b1, 2, none⟩)), (24, slcV A00 a0_2.length), (25, .int .i64 (a0_2.length : Int)), (26, .bool (decide (x5 < (a0_2.length : Int))))] ?_
  refine WP.cond (decide (x5 < (a0_2.length : Int))) rfl rfl (fun c6 => ?_) (fun c6 => ?_)
  ·replace hM := cond_t hM c6
   refine WP.skip (WP.seq (WP.block (WP.seq (WP.seq (WP.region ?_)))))
   refine WL.rn 3 [0] [(29, .pointer (some ⟨b1, 2, none⟩)), (30, slcV A00 a0_2.length), (31, .int .i64 x5)] ?_
   obtain ⟨t7, h8, hM⟩ := bind_some hM
   refine WL.valF (φ := Row 1 (pl (encI .i64)) noK A00 a0_2) (fact_at 0 rfl) (fun w hR => run_indexRowF (A := A00) (xs := a0_2) (i := x5) (k := .i64) (e := 3) (m := 1) (by kernel_rfl) (by kernel_rfl) h8 (by kernel_rfl) (by kernel_rfl) hR) (by kernel_rfl) (by kernel_rfl) rfl ?_
   refine WL.valF (φ := Row 1 (pl (encI .i64)) noK A00 a0_2) (fact_at 0 rfl) (fun w hR => run_loadRowF (A := A00) (xs := a0_2) (i := x5) (j := 0) (v := .int .i64 t7) h8 (fun _ => by kernel_rfl) (by kernel_rfl) (by kernel_rfl) hR) (by kernel_rfl) (by kernel_rfl) rfl ?_
   refine WL.rn 3 [] [(34, .int .i64 x4), (35, .bool (decide (t7 ≤ x4))), (36, .bool (decide (t7 ≤ x4)))] ?_
   refine WL.join (σ := Bool × Bool) 7 (fun st => gangwayref16_Right.k1 a0_2 x5 x3 (gangwayref16_Right.l2 a0_2 a0_1 k n) st.1 st.2 = some r) (fun st => [(1, .pointer (some ⟨b1, 0, none⟩)), (2, .bool x3), (3, .int .i64 x4), (4, .int .i64 x5), (22, .int .i64 x5), (23, .pointer (some ⟨b1, 2, none⟩)), (24, slcV A00 a0_2.length), (25, .int .i64 (a0_2.length : Int)), (26, .bool (decide (x5 < (a0_2.length : Int)))), (29, .pointer (some ⟨b1, 2, none⟩)), (30, slcV A00 a0_2.length), (31, .int .i64 x5), (32, ptrV A00 (Int.toNat x5 * 1)), (33, .int .i64 t7), (34, .int .i64 x4), (35, .bool (decide (t7 ≤ x4))), (36, .bool st.1), (43, .bool st.2)]) (fun st => Sat w Z [(b1, .cells #[.bool a0, .int .i64 a0_1, slcV A00 a0_2.length] 84 (0, 0))] [] ([Row 1 (pl (encI .i64)) noK A00 a0_2] ++ Glob)) (fun st hM => ?_) (fun K1 => ?_)
   ·
    obtain ⟨x12, x13⟩ := st
    replace hM : gangwayref16_Right.k1 a0_2 x5 x3 (gangwayref16_Right.l2 a0_2 a0_1 k n) x12 x13 = some r := hM
    unfold gangwayref16_Right.k1 at hM
    try dsimp only
    refine WP.done ?_
    refine WP.cond x13 rfl rfl (fun c14 => ?_) (fun c14 => ?_)
    ·replace hM := cond_t hM c14
     refine WP.seq (WP.rn [] [(2, .bool false)] ?_)
     obtain rfl := Option.some.inj hM
     exact WP.retF [] [] [0]
    ·replace hM := cond_f hM c14
     refine WP.skip (WP.region ?_)
     refine WL.rn 3 [0] [(44, .pointer (some ⟨b1, 2, none⟩)), (45, slcV A00 a0_2.length), (46, .int .i64 x5)] ?_
     obtain ⟨t15, h16, hM⟩ := bind_some hM
     refine WL.valF (φ := Row 1 (pl (encI .i64)) noK A00 a0_2) (fact_at 0 rfl) (fun w hR => run_indexRowF (A := A00) (xs := a0_2) (i := x5) (k := .i64) (e := 3) (m := 1) (by kernel_rfl) (by kernel_rfl) h16 (by kernel_rfl) (by kernel_rfl) hR) (by kernel_rfl) (by kernel_rfl) rfl ?_
     refine WL.valF (φ := Row 1 (pl (encI .i64)) noK A00 a0_2) (fact_at 0 rfl) (fun w hR => run_loadRowF (A := A00) (xs := a0_2) (i := x5) (j := 0) (v := .int .i64 t15) h16 (fun _ => by kernel_rfl) (by kernel_rfl) (by kernel_rfl) hR) (by kernel_rfl) (by kernel_rfl) rfl ?_
     refine WL.rn 1 [] [(3, .int .i64 t15)] ?_
     refine WP.done (WP.leave (WP.rn [] [(4, .int .i64 (i64 (x5 + 1))), (27, .int .i64 x5), (28, .int .i64 (i64 (x5 + 1)))] ?_))
     exact WP.again' [1, 2, 3, 4] (x3, t15, i64 (x5 + 1)) hM (by kernel_rfl) (fun _ h => (h.pick [0] (by kernel_rfl)).lessF [0] (by kernel_rfl))
   ·
    refine WL.sp 36 (decide (t7 ≤ x4)) (fun c9 => ?_) (fun c9 => ?_)
    ·replace hM := cond_t hM c9
     refine WL.rn 7 [] [(37, .tuple #[]), (38, .tuple #[]), (39, .tuple #[]), (40, .tuple #[]), (41, .tuple #[]), (42, .tuple #[]), (43, .bool true)] ?_
     exact WL.sub [1, 2, 3, 4, 22, 23, 24, 25, 26, 29, 30, 31, 32, 33, 34, 35, 36, 43] (by kernel_rfl) (WL.pick [0] (by kernel_rfl) (by kernel_rfl) (WL.lessF [0] (by kernel_rfl) (K1 (true, true) hM)))
    ·replace hM := cond_f hM c9
     refine WL.rn 3 [0] [(37, .pointer (some ⟨b1, 2, none⟩)), (38, slcV A00 a0_2.length), (39, .int .i64 x5)] ?_
     obtain ⟨t10, h11, hM⟩ := bind_some hM
     refine WL.valF (φ := Row 1 (pl (encI .i64)) noK A00 a0_2) (fact_at 0 rfl) (fun w hR => run_indexRowF (A := A00) (xs := a0_2) (i := x5) (k := .i64) (e := 3) (m := 1) (by kernel_rfl) (by kernel_rfl) h11 (by kernel_rfl) (by kernel_rfl) hR) (by kernel_rfl) (by kernel_rfl) rfl ?_
     refine WL.valF (φ := Row 1 (pl (encI .i64)) noK A00 a0_2) (fact_at 0 rfl) (fun w hR => run_loadRowF (A := A00) (xs := a0_2) (i := x5) (j := 0) (v := .int .i64 t10) h11 (fun _ => by kernel_rfl) (by kernel_rfl) (by kernel_rfl) hR) (by kernel_rfl) (by kernel_rfl) rfl ?_
     refine WL.rn 2 [] [(42, .bool (decide (t10 > 4094))), (43, .bool (decide (t10 > 4094)))] ?_
     exact WL.sub [1, 2, 3, 4, 22, 23, 24, 25, 26, 29, 30, 31, 32, 33, 34, 35, 36, 43] (by kernel_rfl) (WL.pick [0] (by kernel_rfl) (by kernel_rfl) (WL.lessF [0] (by kernel_rfl) (K1 (false, decide (t10 > 4094)) hM)))
  ·replace hM := cond_f hM c6
   refine WP.exit rfl (WP.seq (WP.region (WL.rn 4 [0] [(52, .bool (a0_1 == 0))] ?_)))
   refine WL.join (σ := Bool) 6 (fun st => gangwayref16_Right.k3 st = some r) (fun st => [(2, .bool x3), (58, .bool st)]) (fun st => Sat w Z [] [] ([Row 1 (pl (encI .i64)) noK A00 a0_2] ++ Glob)) (fun st hM => ?_) (fun K3 => ?_)
   ·
    obtain ⟨x20, rfl⟩ : ∃ y, y = st := ⟨st, rfl⟩
    replace hM : gangwayref16_Right.k3 x20 = some r := hM
    unfold gangwayref16_Right.k3 at hM
    try dsimp only
    refine WL.rn 1 [] [(2, .bool x20)] ?_
    refine WP.done ?_
    obtain rfl := Option.some.inj hM
    exact WP.retF [] [] [0]
   ·
    refine WL.sp 52 (a0_1 == 0) (fun c17 => ?_) (fun c17 => ?_)
    ·replace hM := cond_t hM c17
     refine WL.rn 6 [] [(58, .bool true)] ?_
     exact WL.sub [2, 58] (by kernel_rfl) (WL.pick [] (by kernel_rfl) (by kernel_rfl) (WL.lessF [0] (by kernel_rfl) (K3 true hM)))
    ·replace hM := cond_f hM c17
     refine WL.rn 4 [0, 0] [(54, slcV A00 a0_2.length), (56, .int .i64 a0_1)] ?_
     obtain ⟨r18, h19, hM⟩ := bind_some hM
     refine WL.callP [] [] (gangwayref16_among_calls k A00 a0_2 a0_1 _ h19) (sub_pick [0] (by kernel_rfl)) (by kernel_rfl) (by kernel_rfl) rfl ?_
     refine WL.rn 1 [] [(58, .bool r18)] ?_
     exact WL.sub [2, 58] (by kernel_rfl) (WL.pick [] (by kernel_rfl) (by kernel_rfl) (WL.lessF [0] (by kernel_rfl) (K3 r18 hM)))
def gangwayref10_New.f (a0 : Int) (a1 : Int) : Option (Int) :=
 bif ((((decide (a0 < 1)) || (decide (a0 > 4096))) || (decide (a1 < 1))) || (decide (a1 > 1099511627776))) then
  some 1
 else
  some 0
theorem gangwayref10_New_calls (a0 : Int) (a1 : Int) (r : Int) (h : gangwayref10_New.f a0 a1 = some r) : Does Tryz.prog 109 #[.int .i64 a0, .int .i64 a1] [] ([] ++ Glob) (fun x : (Option Addr) => .tuple #[.pointer x, .int .i64 r]) (fun x => []) (fun _ => []) (fun x => [] ++ ([] ++ Glob)) := by
 intro w Z hS
 refine callsS (args := [.int .i64 a0, .int .i64 a1]) (L := [(0, .int .i64 a0), (1, .int .i64 a1)]) (N := 24) Tryz.func109 hS ?_
 have hM := h
 clear h hS
 unfold gangwayref10_New.f at hM
 refine WP.seq (WP.rn [] [(4, .pointer none), (5, .int .i64 0)] ?_)
 refine WP.seq (WP.seq (WP.region (WL.rn 3 [] [(8, .bool (decide (a0 < 1)))] ?_)))
 refine WL.bo 8 (decide (a0 < 1)) 3 [] [] (fun b' => [(11, .bool (b' || (decide (a0 > 4096))))]) ?_
 refine WL.rn 1 [] [(12, .bool ((decide (a0 < 1)) || (decide (a0 > 4096))))] ?_
 refine WL.bo 12 ((decide (a0 < 1)) || (decide (a0 > 4096))) 3 [] [] (fun b' => [(15, .bool (b' || (decide (a1 < 1))))]) ?_
 refine WL.rn 1 [] [(16, .bool (((decide (a0 < 1)) || (decide (a0 > 4096))) || (decide (a1 < 1))))] ?_
 refine WL.bo 16 (((decide (a0 < 1)) || (decide (a0 > 4096))) || (decide (a1 < 1))) 3 [] [] (fun b' => [(19, .bool (b' || (decide (a1 > 1099511627776))))]) ?_
 refine WP.done ?_
 refine WP.cond ((((decide (a0 < 1)) || (decide (a0 > 4096))) || (decide (a1 < 1))) || (decide (a1 > 1099511627776))) rfl rfl (fun c1 => ?_) (fun c1 => ?_)
 ·replace hM := cond_t hM c1
  refine WP.seq (WP.rn [] [(4, .pointer none), (5, .int .i64 1)] ?_)
  obtain rfl := Option.some.inj hM
  exact WP.ret [] [] (.tuple #[.pointer none, .int .i64 1]) (by kernel_rfl) (fun w' hw => ⟨(none : Option Addr), rfl, (hw.pick [] (by kernel_rfl)).less (sub_ret [] [] (by kernel_rfl) (by kernel_rfl))⟩)
 ·replace hM := cond_f hM c1
  refine WP.skip (WP.seq ?_)
  refine WP.rh [] (fun b2 => [(4, .pointer (some ⟨b2, 0, none⟩)), (5, .int .i64 0)]) (fun b2 => []) (fun b2 => [(b2, .cells #[.slice none 0 0, .int .i64 a0, .int .i64 a1] 287 (0, 0))]) (fun b2 => ?_)
  obtain rfl := Option.some.inj hM
  exact WP.ret [] [] (.tuple #[.pointer (some ⟨b2, 0, none⟩), .int .i64 0]) (by kernel_rfl) (fun w' hw => ⟨(some ⟨b2, 0, none⟩), rfl, (hw.pick [] (by kernel_rfl)).less (sub_ret [] [] (by kernel_rfl) (by kernel_rfl))⟩)
def gangwayref11_New.f (a0 : api_Keep) : Option (Int) :=
 (gangwayref10_New.f a0.Room a0.Life).bind fun r2 =>
 bif (((((r2 != 0) || (decide (a0.Moves < 0))) || (decide (a0.Moves > 64))) || (decide (a0.Window < 1))) || (decide (a0.Window > 1099511627776))) then
  some 1
 else
  some 0
theorem gangwayref11_New_calls (a0 : api_Keep) (r : Int) (h : gangwayref11_New.f a0 = some r) : Does Tryz.prog 108 #[api_Keep.v a0] [] ([] ++ Glob) (fun x : (Option Addr) => .tuple #[.pointer x, .int .i64 r]) (fun x => []) (fun _ => []) (fun x => [] ++ ([] ++ Glob)) := by
 intro w Z hS
 refine callsS (args := [api_Keep.v a0]) (L := [(0, api_Keep.v a0)]) (N := 40) Tryz.func108 hS ?_
 have hM := h
 clear h hS
 unfold gangwayref11_New.f at hM
 refine WP.seq ?_
 refine WP.rh [] (fun b1 => [(1, .pointer (some ⟨b1, 0, none⟩)), (2, .pointer none), (3, .int .i64 0)]) (fun b1 => []) (fun b1 => [(b1, api_Keep.o a0)]) (fun b1 => ?_)
 refine WP.seq (WP.region (WL.rn 4 [0, 0] [(8, .int .i64 a0.Room), (10, .int .i64 a0.Life)] ?_))
 obtain ⟨r2, h3, hM⟩ := bind_some hM
 refine WL.callX (F0 := []) [] [] [false] (fun _ => _) [] (by kernel_rfl) (gangwayref10_New_calls a0.Room a0.Life _ h3) rfl rfl (by kernel_rfl) (by kernel_rfl) (fun _ => rfl) (fun A4 => ?_)
 refine WL.rn 5 [] [(4, .pointer A4), (5, .int .i64 r2)] ?_
 refine WP.done (WP.seq (WP.seq (WP.region (WL.rn 3 [] [(16, .bool (r2 != 0))] ?_))))
 refine WL.bo 16 (r2 != 0) 4 [] [0] (fun b' => [(20, .bool (b' || (decide (a0.Moves < 0))))]) ?_
 refine WL.rn 1 [] [(21, .bool ((r2 != 0) || (decide (a0.Moves < 0))))] ?_
 refine WL.bo 21 ((r2 != 0) || (decide (a0.Moves < 0))) 4 [] [0] (fun b' => [(25, .bool (b' || (decide (a0.Moves > 64))))]) ?_
 refine WL.rn 1 [] [(26, .bool (((r2 != 0) || (decide (a0.Moves < 0))) || (decide (a0.Moves > 64))))] ?_
 refine WL.bo 26 (((r2 != 0) || (decide (a0.Moves < 0))) || (decide (a0.Moves > 64))) 4 [] [0] (fun b' => [(30, .bool (b' || (decide (a0.Window < 1))))]) ?_
 refine WL.rn 1 [] [(31, .bool ((((r2 != 0) || (decide (a0.Moves < 0))) || (decide (a0.Moves > 64))) || (decide (a0.Window < 1))))] ?_
 refine WL.bo 31 ((((r2 != 0) || (decide (a0.Moves < 0))) || (decide (a0.Moves > 64))) || (decide (a0.Window < 1))) 4 [] [0] (fun b' => [(35, .bool (b' || (decide (a0.Window > 1099511627776))))]) ?_
 refine WP.done ?_
 refine WP.cond (((((r2 != 0) || (decide (a0.Moves < 0))) || (decide (a0.Moves > 64))) || (decide (a0.Window < 1))) || (decide (a0.Window > 1099511627776))) rfl rfl (fun c5 => ?_) (fun c5 => ?_)
 ·replace hM := cond_t hM c5
  refine WP.seq (WP.rn [] [(2, .pointer none), (3, .int .i64 1)] ?_)
  obtain rfl := Option.some.inj hM
  exact WP.ret [] [] (.tuple #[.pointer none, .int .i64 1]) (by kernel_rfl) (fun w' hw => ⟨(none : Option Addr), rfl, (hw.pick [] (by kernel_rfl)).less (sub_ret [] [] (by kernel_rfl) (by kernel_rfl))⟩)
 ·replace hM := cond_f hM c5
  refine WP.skip (WP.seq ?_)
  refine WP.rh [0, 0, 0, 0] (fun b6 => [(2, .pointer (some ⟨b6, 0, none⟩)), (3, .int .i64 0)]) (fun b6 => []) (fun b6 => [(b6, .cells #[.pointer A4, .int .i64 a0.Room, .int .i64 a0.Life, .int .i64 a0.Moves, .int .i64 a0.Window, .slice none 0 0] 285 (0, 0))]) (fun b6 => ?_)
  refine WP.kp [false, true] ?_
  obtain rfl := Option.some.inj hM
  exact WP.ret [] [] (.tuple #[.pointer (some ⟨b6, 0, none⟩), .int .i64 0]) (by kernel_rfl) (fun w' hw => ⟨(some ⟨b6, 0, none⟩), rfl, (hw.pick [] (by kernel_rfl)).less (sub_ret [] [] (by kernel_rfl) (by kernel_rfl))⟩)
def gangwayref17_New.l1 (a0 : (List api_PortCfg)) (k : Nat) (a1 : api_Keep) : Nat → Int → Int → Option (Int)
 | 0, _, _ => none
 | n + 1, x3, x4 =>
  bif decide (x4 < (a0.length : Int)) then
   (getL a0.length a0 x4).bind fun t6 =>
   (gangwayref16_Right.f k t6.Trunk t6.Pvid t6.Vids).bind fun r8 =>
   bif !r8 then
    some 1
   else
    gangwayref17_New.l1 a0 k a1 n x3 (i64 (x4 + 1))
  else
   (gangwayref11_New.f a1).bind fun r11 =>
   bif (r11 != 0) then
    some r11
   else
    (roomL 40 a0.length).bind fun u17 =>
    (mkLen 8 (a0.length : Int)).bind fun t19 =>
    some 0
def gangwayref17_New.f (k : Nat) (a0 : (List api_PortCfg)) (a1 : api_Keep) : Option (Int) :=
 bif decide ((a0.length : Int) > 64) then
  some 1
 else
  gangwayref17_New.l1 a0 k a1 k 0 0
theorem gangwayref17_New_calls (k : Nat) (A00 : SkL (SkL Unit)) (a0 : (List api_PortCfg)) (a1 : api_Keep) (r : Int) (h : gangwayref17_New.f k a0 a1 = some r) : Does Tryz.prog 61 #[slcV A00 a0.length, api_Keep.v a1] [] ([Row 3 api_PortCfg.encS api_PortCfg.inK A00 a0] ++ Glob) (fun x : (Option Addr) => .tuple #[.pointer x, .int .i64 r]) (fun x => []) (fun _ => []) (fun x => [] ++ ([Row 3 api_PortCfg.encS api_PortCfg.inK A00 a0] ++ Glob)) := by
 intro w Z hS
 refine callsS (args := [slcV A00 a0.length, api_Keep.v a1]) (L := [(0, slcV A00 a0.length), (1, api_Keep.v a1)]) (N := 41) Tryz.func61 hS ?_
 have hM := h
 clear h hS
 unfold gangwayref17_New.f at hM
 refine WP.seq ?_
 refine WP.rh [] (fun b1 => [(3, .pointer (some ⟨b1, 0, none⟩)), (4, .pointer none), (5, .int .i64 0)]) (fun b1 => []) (fun b1 => [(b1, api_Keep.o a1)]) (fun b1 => ?_)
 refine WP.seq (WP.seq (WP.rn [] [(11, .bool (decide ((a0.length : Int) > 64)))] ?_))
 refine WP.cond (decide ((a0.length : Int) > 64)) rfl rfl (fun c2 => ?_) (fun c2 => ?_)
 ·replace hM := cond_t hM c2
  refine WP.seq (WP.rn [] [(4, .pointer none), (5, .int .i64 1)] ?_)
  obtain rfl := Option.some.inj hM
  exact WP.ret [] [] (.tuple #[.pointer none, .int .i64 1]) (by kernel_rfl) (fun w' hw => ⟨(none : Option Addr), rfl, (hw.pick [] (by kernel_rfl)).less (sub_ret [] [0] (by kernel_rfl) (by kernel_rfl))⟩)
 ·replace hM := cond_f hM c2
  refine WP.skip (WP.seq (WP.seq (WP.rn [] [(6, .int .i64 0)] ?_)))
  refine WP.block ?_
  refine WP.sub [0, 3, 5, 6] (L' := [(0, slcV A00 a0.length), (3, .pointer (some ⟨b1, 0, none⟩)), (5, .int .i64 0), (6, .int .i64 0)]) (by kernel_rfl) ?_
  refine WP.lessF [0] (F' := [Row 3 api_PortCfg.encS api_PortCfg.inK A00 a0]) (by kernel_rfl) ?_
  refine WP.loop (σ := Int × Int) (fun n st => gangwayref17_New.l1 a0 k a1 n st.1 st.2) r (fun st => [(0, slcV A00 a0.length), (3, .pointer (some ⟨b1, 0, none⟩)), (5, .int .i64 st.1), (6, .int .i64 st.2)]) (fun st => Sat w Z [(b1, api_Keep.o a1)] [] ([Row 3 api_PortCfg.encS api_PortCfg.inK A00 a0] ++ Glob)) (st := (0, 0)) (fun n st hM => ?_) hM
  rcases n with _ | n
  ·exact nomatch (show (none : Option _) = some r from hM)
  obtain ⟨x3, x4⟩ := st
  replace hM : gangwayref17_New.l1 a0 k a1 (n + 1) x3 x4 = some r := hM
  rw [gangwayref17_New.l1] at hM
  try dsimp only
  refine WP.seq (WP.seq (WP.rn [] [(12, .int .i64 x4), (13, slcV A00 a0.length), (14, .int .i64 (a0.length : Int)), (15, .bool (decide (x4 < (a0.length : Int))))] ?_))
  refine WP.cond (decide (x4 < (a0.length : Int))) rfl rfl (fun c5 => ?_) (fun c5 => ?_)
  ·replace hM := cond_t hM c5
   refine WP.skip (WP.seq (WP.block (WP.seq (WP.region (WL.rn 2 [] [(18, slcV A00 a0.length), (19, .int .i64 x4)] ?_)))))
   obtain ⟨t6, h7, hM⟩ := bind_some hM
   refine WL.valF (φ := Row 3 api_PortCfg.encS api_PortCfg.inK A00 a0) (fact_at 0 rfl) (fun w hR => run_indexRowF (A := A00) (xs := a0) (i := x4) (k := .i64) (e := 84) (m := 3) (by kernel_rfl) (by kernel_rfl) h7 (by kernel_rfl) (by kernel_rfl) hR) (by kernel_rfl) (by kernel_rfl) rfl ?_
   refine WL.valF (φ := Row 3 api_PortCfg.encS api_PortCfg.inK A00 a0) (fact_at 0 rfl) (fun w hR => run_loadRowFA (A := A00) (xs := a0) (i := x4) (j := 0) (n := 3) (vs := [.bool t6.Trunk, .int .i64 t6.Pvid, slcV (A00.s (Int.toNat x4)) t6.Vids.length]) h7 (fun _ => by kernel_rfl) (by kernel_rfl) (by kernel_rfl) (by kernel_rfl) rfl hR) (by kernel_rfl) (by kernel_rfl) rfl ?_
   refine WL.know (Row 1 (pl (encI .i64)) noK (A00.s (Int.toNat x4)) t6.Vids) [0] [Row 3 api_PortCfg.encS api_PortCfg.inK A00 a0] (by kernel_rfl) (fun w hψ => ((hψ _ (List.mem_singleton.2 rfl)).inner _ _ (getL_parts h7).2)) ?_
   obtain ⟨r8, h9, hM⟩ := bind_some hM
   refine WL.callP [] [] (gangwayref16_Right_calls k (A00.s (Int.toNat x4)) t6.Trunk t6.Pvid t6.Vids _ h9) (sub_pick [0] (by kernel_rfl)) (by kernel_rfl) (by kernel_rfl) rfl ?_
   refine WL.rn 1 [] [(23, .bool (!r8))] ?_
   refine WP.done ?_
   refine WP.cond (!r8) rfl rfl (fun c10 => ?_) (fun c10 => ?_)
   ·replace hM := cond_t hM c10
    refine WP.seq (WP.rn [] [(4, .pointer none), (5, .int .i64 1)] ?_)
    obtain rfl := Option.some.inj hM
    exact WP.ret [] [] (.tuple #[.pointer none, .int .i64 1]) (by kernel_rfl) (fun w' hw => ⟨(none : Option Addr), rfl, (hw.pick [] (by kernel_rfl)).less (sub_ret [] [1] (by kernel_rfl) (by kernel_rfl))⟩)
   ·replace hM := cond_f hM c10
    refine WP.skip (WP.leave (WP.rn [] [(6, .int .i64 (i64 (x4 + 1))), (16, .int .i64 x4), (17, .int .i64 (i64 (x4 + 1)))] ?_))
    exact WP.again' [0, 3, 5, 6] (x3, i64 (x4 + 1)) hM (by kernel_rfl) (fun _ h => (h.pick [0] (by kernel_rfl)).lessF [1] (by kernel_rfl))
  ·replace hM := cond_f hM c5
   refine WP.exit rfl (WP.seq (WP.region (WL.rn 1 [0, 0, 0, 0] [(25, api_Keep.v a1)] ?_)))
   obtain ⟨r11, h12, hM⟩ := bind_some hM
   refine WL.callX (F0 := []) [] [] [false] (fun _ => _) [] (by kernel_rfl) (gangwayref11_New_calls a1 _ h12) rfl rfl (by kernel_rfl) (by kernel_rfl) (fun _ => rfl) (fun A13 => ?_)
   refine WL.rn 5 [] [(7, .pointer A13), (8, .int .i64 r11)] ?_
   refine WP.done (WP.kp [false] ?_)
   refine WP.seq (WP.seq (WP.rn [] [(30, .bool (r11 != 0))] ?_))
   refine WP.cond (r11 != 0) rfl rfl (fun c14 => ?_) (fun c14 => ?_)
   ·replace hM := cond_t hM c14
    refine WP.seq (WP.rn [] [(4, .pointer none), (5, .int .i64 r11)] ?_)
    obtain rfl := Option.some.inj hM
    exact WP.ret [] [] (.tuple #[.pointer none, .int .i64 r11]) (by kernel_rfl) (fun w' hw => ⟨(none : Option Addr), rfl, (hw.pick [] (by kernel_rfl)).less (sub_ret [] [0] (by kernel_rfl) (by kernel_rfl))⟩)
   ·replace hM := cond_f hM c14
    refine WP.skip (WP.seq ?_)
    obtain ⟨u17, h16, hM⟩ := bind_some hM
    obtain ⟨t19, h20, hM⟩ := bind_some hM
    refine WP.rs [0, 5, 7] ?_
    refine WP.graphF (X := (Nat × (SkL (SkL Unit)) × Nat × Nat)) 11 3 [⟨1, 11, fun ξ => [((ξ 0).1, .cells #[] 84 (0, 0))], fun ξ => []⟩, ⟨6, 11, fun ξ => [((ξ 5).2.2.1, .cells (rowF (encI .i64) (List.replicate t19 0)) 3 (0, 0))], fun ξ => []⟩, ⟨9, 11, fun ξ => [((ξ 8).2.2.2, .cells #[slcV (ξ 2).2.1 a0.length, .slice (some ⟨(ξ 5).2.2.1, 0, none⟩) t19 t19, .pointer A13] 219 (0, 0))], fun ξ => []⟩] [⟨[], [], [0], [], [], fun ξ => .slice (some ⟨(ξ 0).1, 0, none⟩) 0 0, fun ξ => []⟩, ⟨[], [], [], [], [], fun _ => slcV A00 a0.length, fun _ => []⟩, ⟨[0, 1], [0], [0], [], [], fun ξ => slcV (ξ 2).2.1 a0.length, fun ξ => [Row 3 api_PortCfg.encS api_PortCfg.inK (ξ 2).2.1 a0]⟩, ⟨[], [], [], [], [], fun _ => slcV A00 a0.length, fun _ => []⟩, ⟨[3], [], [], [], [], fun _ => .int .i64 (a0.length : Int), fun _ => []⟩, ⟨[3, 4], [], [1], [], [], fun ξ => .slice (some ⟨(ξ 5).2.2.1, 0, none⟩) t19 t19, fun ξ => []⟩, ⟨[], [], [], [], [], fun _ => .pointer A13, fun _ => []⟩, ⟨[0, 1, 2, 3, 4, 5, 6], [], [], [2, 5], [], fun ξ => .agg #[slcV (ξ 2).2.1 a0.length, .slice (some ⟨(ξ 5).2.2.1, 0, none⟩) t19 t19, .pointer A13], fun ξ => []⟩, ⟨[0, 1, 2, 3, 4, 5, 6, 7], [], [2], [2, 5], [], fun ξ => .pointer (some ⟨(ξ 8).2.2.2, 0, none⟩), fun ξ => []⟩, ⟨[0, 1, 2, 3, 4, 5, 6, 7, 8], [], [], [8], [], fun ξ => .pointer (some ⟨(ξ 8).2.2.2, 0, none⟩), fun ξ => []⟩, ⟨[0, 1, 2, 3, 4, 5, 6, 7, 8, 9], [], [], [], [], fun _ => .int .i64 0, fun _ => []⟩] (fun ξ => [(4, .pointer (some ⟨(ξ 8).2.2.2, 0, none⟩)), (5, .int .i64 0)]) (fun ξ => [((ξ 0).1, .cells #[] 84 (0, 0)), ((ξ 5).2.2.1, .cells (rowF (encI .i64) (List.replicate t19 0)) 3 (0, 0)), ((ξ 8).2.2.2, .cells #[slcV (ξ 2).2.1 a0.length, .slice (some ⟨(ξ 5).2.2.1, 0, none⟩) t19 t19, .pointer A13] 219 (0, 0))]) (fun ξ => []) (fun ξ => [Row 3 api_PortCfg.encS api_PortCfg.inK (ξ 2).2.1 a0]) (AllN.cons ?_ (AllN.cons ?_ (AllN.cons ?_ (AllN.cons ?_ (AllN.cons ?_ (AllN.cons ?_ (AllN.cons ?_ (AllN.cons ?_ (AllN.cons ?_ (AllN.cons ?_ (AllN.cons ?_ AllN.nil))))))))))) (AllN.cons (fun t ht ξ ξ' h => by cases ht; have e0 : ξ 0 = ξ' 0 := h 0 (memN_iff.1 rfl); exact ⟨by first | rfl | simp only [e0], by first | rfl | simp only [e0]⟩) (AllN.cons (VAgr.c rfl) (AllN.cons (fun t ht ξ ξ' h => by cases ht; have e2 : ξ 2 = ξ' 2 := h 2 (memN_iff.1 rfl); exact ⟨by first | rfl | simp only [e2], by first | rfl | simp only [e2]⟩) (AllN.cons (VAgr.c rfl) (AllN.cons (VAgr.c rfl) (AllN.cons (fun t ht ξ ξ' h => by cases ht; have e5 : ξ 5 = ξ' 5 := h 5 (memN_iff.1 rfl); exact ⟨by first | rfl | simp only [e5], by first | rfl | simp only [e5]⟩) (AllN.cons (VAgr.c rfl) (AllN.cons (fun t ht ξ ξ' h => by cases ht; have e2 : ξ 2 = ξ' 2 := h 2 (memN_iff.1 rfl); have e5 : ξ 5 = ξ' 5 := h 5 (memN_iff.1 rfl); exact ⟨by first | rfl | simp only [e2, e5], by first | rfl | simp only [e2, e5]⟩) (AllN.cons (fun t ht ξ ξ' h => by cases ht; have e8 : ξ 8 = ξ' 8 := h 8 (memN_iff.1 rfl); exact ⟨by first | rfl | simp only [e8], by first | rfl | simp only [e8]⟩) (AllN.cons (fun t ht ξ ξ' h => by cases ht; have e8 : ξ 8 = ξ' 8 := h 8 (memN_iff.1 rfl); exact ⟨by first | rfl | simp only [e8], by first | rfl | simp only [e8]⟩) (AllN.cons (VAgr.c rfl) AllN.nil))))))))))) (AllN.cons (fun r hr ξ ξ' h => by cases hr; have e0 : ξ 0 = ξ' 0 := h 0 (memN_iff.1 rfl); exact ⟨by first | rfl | simp only [e0], by first | rfl | simp only [e0]⟩) (AllN.cons (fun r hr ξ ξ' h => by cases hr; have e5 : ξ 5 = ξ' 5 := h 5 (memN_iff.1 rfl); exact ⟨by first | rfl | simp only [e5], by first | rfl | simp only [e5]⟩) (AllN.cons (fun r hr ξ ξ' h => by cases hr; have e2 : ξ 2 = ξ' 2 := h 2 (memN_iff.1 rfl); have e5 : ξ 5 = ξ' 5 := h 5 (memN_iff.1 rfl); have e8 : ξ 8 = ξ' 8 := h 8 (memN_iff.1 rfl); exact ⟨by first | rfl | simp only [e2, e5, e8], by first | rfl | simp only [e2, e5, e8]⟩) AllN.nil))) (fun ξ => ?_)
    ·
     intro o t ho ht ξ Gr Γr Lr Q hk
     cases ho; cases ht
     refine WL.rh 1 [] (fun b15 => [(32, .slice (some ⟨b15, 0, none⟩) 0 0)]) (fun b15 => []) (fun b15 => [(b15, .cells #[] 84 (0, 0))]) (fun b15 => ?_)
     exact WL.fin (hk (b15, default, default, default))
    ·
     intro o t ho ht ξ Gr Γr Lr Q hk
     cases ho; cases ht
     refine WL.rn 1 [] [(33, slcV A00 a0.length)] ?_
     exact WL.fin (hk default)
    ·
     intro o t ho ht ξ Gr Γr Lr Q hk
     cases ho; cases ht
     refine WL.appendCopy (A := (SkL.at (ξ 0).1 0 (fun _ => (SkL.nil (fun _ => ()))))) (B := A00) (ys := a0) (n := 0) (m := 3) (by_ := 40) (e := 84) (z := .agg #[.bool false, .int .i64 0, .slice none 0 0]) (f := api_PortCfg.encS) (K := api_PortCfg.inK) (d := 34) rfl rfl (by kernel_rfl) (by kernel_rfl) (by kernel_rfl) (fun _ _ => rfl) (by kernel_rfl) (by kernel_rfl) rfl rfl (by kernel_rfl) (fact_at 0 rfl) h16 (by kernel_rfl) (fun A18 => ?_)
     refine WL.less (Φ' := (([Row 3 api_PortCfg.encS api_PortCfg.inK A18 a0, Row 3 api_PortCfg.encS api_PortCfg.inK A00 a0] ++ Γr) ++ Glob)) (fun _ h => h) ?_
     exact WL.fin (hk (default, A18, default, default))
    ·
     intro o t ho ht ξ Gr Γr Lr Q hk
     cases ho; cases ht
     refine WL.rn 1 [] [(35, slcV A00 a0.length)] ?_
     exact WL.fin (hk default)
    ·
     intro o t ho ht ξ Gr Γr Lr Q hk
     cases ho; cases ht
     refine WL.rn 1 [] [(36, .int .i64 (a0.length : Int))] ?_
     exact WL.fin (hk default)
    ·
     intro o t ho ht ξ Gr Γr Lr Q hk
     cases ho; cases ht
     refine WL.makeSlice (f := (encI .i64)) (z := 0) (zv := .int .i64 0) (i := (a0.length : Int)) (k := .i64) (e := 3) (by kernel_rfl) (by kernel_rfl) rfl Nat.zero_lt_one (fun _ => rfl) (by kernel_rfl) (by kernel_rfl) h20 (by kernel_rfl) rfl (fun b21 => ?_)
     exact WL.fin (hk (default, default, b21, default))
    ·
     intro o t ho ht ξ Gr Γr Lr Q hk
     cases ho; cases ht
     refine WL.rn 1 [] [(38, .pointer A13)] ?_
     exact WL.fin (hk default)
    ·
     intro o t ho ht ξ Gr Γr Lr Q hk
     cases ho; cases ht
     refine WL.rn 1 [] [(39, .agg #[slcV (ξ 2).2.1 a0.length, .slice (some ⟨(ξ 5).2.2.1, 0, none⟩) t19 t19, .pointer A13])] ?_
     exact WL.fin (hk default)
    ·
     intro o t ho ht ξ Gr Γr Lr Q hk
     cases ho; cases ht
     refine WL.rh 1 [] (fun b22 => [(40, .pointer (some ⟨b22, 0, none⟩))]) (fun b22 => []) (fun b22 => [(b22, .cells #[slcV (ξ 2).2.1 a0.length, .slice (some ⟨(ξ 5).2.2.1, 0, none⟩) t19 t19, .pointer A13] 219 (0, 0))]) (fun b22 => ?_)
     exact WL.fin (hk (default, default, default, b22))
    ·
     intro o t ho ht ξ Gr Γr Lr Q hk
     cases ho; cases ht
     refine WL.rn 1 [] [(4, .pointer (some ⟨(ξ 8).2.2.2, 0, none⟩))] ?_
     exact WL.fin (hk default)
    ·
     intro o t ho ht ξ Gr Γr Lr Q hk
     cases ho; cases ht
     refine WL.rn 1 [] [(5, .int .i64 0)] ?_
     exact WL.fin (hk default)
    generalize (ξ 0).1 = b15
    generalize (ξ 2).2.1 = A18
    generalize (ξ 5).2.2.1 = b21
    generalize (ξ 8).2.2.2 = b22
    refine WP.less (Φ' := ([Row 3 api_PortCfg.encS api_PortCfg.inK A18 a0, Row 3 api_PortCfg.encS api_PortCfg.inK A00 a0] ++ Glob)) (fun _ h => h) ?_
    refine WP.kp [false, true, true] ?_
    obtain rfl := Option.some.inj hM
    exact WP.ret [] [] (.tuple #[.pointer (some ⟨b22, 0, none⟩), .int .i64 0]) (by kernel_rfl) (fun w' hw => ⟨(some ⟨b22, 0, none⟩), rfl, (hw.pick [] (by kernel_rfl)).less (sub_ret [] [1] (by kernel_rfl) (by kernel_rfl))⟩)
def gangwayref15_New.k2 (a2 : (List Bool)) (x25 : Int) (a1 : (List Int)) (x26 : (List api_SpanPort)) (x24 : Int) (rec_l3 : Int → Int → (List api_SpanPort) → Option (api_Span × Int)) (x34 : Bool) (x35 : Bool) : Option (api_Span × Int) :=
 bif x35 then
  some ((api_Span.mk 0 ([] : List api_SpanPort) 0), 1)
 else
  (getL a2.length a2 x25).bind fun t37 =>
  (getL a1.length a1 x25).bind fun t40 =>
  (roomL 120 (x26 ++ ([(api_SpanPort.mk (api_View.mk false t40 false (api_Vector.mk 0 0 0 0 0)) t37 0 0 0 0 false 0)] : List api_SpanPort)).length).bind fun u44 =>
  rec_l3 x24 (i64 (x25 + 1)) (x26 ++ ([(api_SpanPort.mk (api_View.mk false t40 false (api_Vector.mk 0 0 0 0 0)) t37 0 0 0 0 false 0)] : List api_SpanPort))
def gangwayref15_New.l3 (a1 : (List Int)) (a2 : (List Bool)) (a0 : Int) : Nat → Int → Int → (List api_SpanPort) → Option (api_Span × Int)
 | 0, _, _, _ => none
 | n + 1, x24, x25, x26 =>
  bif decide (x25 < (a1.length : Int)) then
   (getL a1.length a1 x25).bind fun t29 =>
   bif decide (t29 < 1) then
    gangwayref15_New.k2 a2 x25 a1 x26 x24 (gangwayref15_New.l3 a1 a2 a0 n) true true
   else
    (getL a1.length a1 x25).bind fun t32 =>
    gangwayref15_New.k2 a2 x25 a1 x26 x24 (gangwayref15_New.l3 a1 a2 a0 n) false (decide (t32 > 16777216))
  else
   some ((api_Span.mk a0 x26 0), 0)
def gangwayref15_New.f (k : Nat) (a0 : Int) (a1 : (List Int)) (a2 : (List Bool)) : Option (api_Span × Int) :=
 bif ((decide ((a1.length : Int) > 64)) || ((a1.length : Int) != (a2.length : Int))) then
  some ((api_Span.mk 0 ([] : List api_SpanPort) 0), 1)
 else
  gangwayref15_New.l3 a1 a2 a0 k 0 0 ([] : List api_SpanPort)
theorem gangwayref15_New_calls (k : Nat) (A00 : SkL Unit) (A01 : SkL Unit) (a0 : Int) (a1 : (List Int)) (a2 : (List Bool)) (r : api_Span × Int) (h : gangwayref15_New.f k a0 a1 a2 = some r) : Does Tryz.prog 62 #[.int .u64 a0, slcV A00 a1.length, slcV A01 a2.length] [] ([Row 1 (pl (encI .i64)) noK A00 a1, Row 1 (pl encB) noK A01 a2] ++ Glob) (fun x : (SkL Unit) => .tuple #[.agg #[.int .u64 r.1.Bridge, slcV x r.1.Ports.length, .int .i64 r.1.Now], .int .i64 r.2]) (fun x => []) (fun _ => []) (fun x => [Row 15 (pl api_SpanPort.enc) noK x r.1.Ports] ++ ([Row 1 (pl (encI .i64)) noK A00 a1, Row 1 (pl encB) noK A01 a2] ++ Glob)) := by
 intro w Z hS
 refine callsS (args := [.int .u64 a0, slcV A00 a1.length, slcV A01 a2.length]) (L := [(0, .int .u64 a0), (1, slcV A00 a1.length), (2, slcV A01 a2.length)]) (N := 61) Tryz.func62 hS ?_
 have hM := h
 clear h hS
 unfold gangwayref15_New.f at hM
 refine WP.seq ?_
 refine WP.rh [] (fun b1 => [(6, .pointer (some ⟨b1, 0, none⟩)), (7, .int .i64 0)]) (fun b1 => []) (fun b1 => [(b1, .cells #[.int .u64 0, .slice none 0 0, .int .i64 0] 111 (0, 0))]) (fun b1 => ?_)
 refine WP.seq (WP.seq (WP.region (WL.rn 4 [] [(14, .bool (decide ((a1.length : Int) > 64)))] ?_)))
 refine WL.bo 14 (decide ((a1.length : Int) > 64)) 6 [] [] (fun b' => [(20, .bool (b' || ((a1.length : Int) != (a2.length : Int))))]) ?_
 refine WP.done ?_
 refine WP.cond ((decide ((a1.length : Int) > 64)) || ((a1.length : Int) != (a2.length : Int))) rfl rfl (fun c2 => ?_) (fun c2 => ?_)
 ·replace hM := cond_t hM c2
  refine WP.seq (WP.rn [0, 0, 0] [(7, .int .i64 1)] ?_)
  refine WP.know (Row 15 (pl api_SpanPort.enc) noK (SkL.nil (fun _ => ())) ([] : List api_SpanPort)) [] [] (by kernel_rfl) (fun w _ => RowP.empty (fun _ => rfl)) ?_
  obtain rfl := Option.some.inj hM
  exact WP.ret [0, 0, 0] [b1, b1, b1] (.tuple #[.agg #[.int .u64 0, slcV (SkL.nil (fun _ => ())) ([] : List api_SpanPort).length, .int .i64 0], .int .i64 1]) (by kernel_rfl) (fun w' hw => ⟨(SkL.nil (fun _ => ())), rfl, (hw.pick [] (by kernel_rfl)).less (sub_ret [0] [1, 2] (by kernel_rfl) (by kernel_rfl))⟩)
 ·replace hM := cond_f hM c2
  refine WP.skip (WP.seq ?_)
  refine WP.rh [1, 1, 1] (fun b3 => [(8, .pointer (some ⟨b3, 0, none⟩))]) (fun b3 => []) (fun b3 => [(b3, .cells #[.int .u64 a0, .slice none 0 0, .int .i64 0] 111 (0, 0))]) (fun b3 => ?_)
  refine WP.seq (WP.seq (WP.rn [] [(9, .int .i64 0)] ?_))
  refine WP.block ?_
  refine WP.growNil 15 198 (pl api_SpanPort.enc) noK (fun _ => ()) ?_
  skip
  refine WP.sub [1, 2, 6, 7, 8, 9] (L' := [(1, slcV A00 a1.length), (2, slcV A01 a2.length), (6, .pointer (some ⟨b1, 0, none⟩)), (7, .int .i64 0), (8, .pointer (some ⟨b3, 0, none⟩)), (9, .int .i64 0)]) (by kernel_rfl) ?_
  refine WP.lessF [0, 0, 1, 2] (F' := [GIn noK (SkL.nil (fun _ => ())) ([] : List api_SpanPort), GIn noK (SkL.nil (fun _ => ())) ([] : List api_SpanPort), Row 1 (pl (encI .i64)) noK A00 a1, Row 1 (pl encB) noK A01 a2]) (by kernel_rfl) ?_
  refine WP.loop (σ := Int × Int × (List api_SpanPort) × SkL Unit) (fun n st => gangwayref15_New.l3 a1 a2 a0 n st.1 st.2.1 st.2.2.1) r (fun st => [(1, slcV A00 a1.length), (2, slcV A01 a2.length), (6, .pointer (some ⟨b1, 0, none⟩)), (7, .int .i64 st.1), (8, .pointer (some ⟨b3, 0, none⟩)), (9, .int .i64 st.2.1)]) (fun st => Sat w Z [(b1, .cells #[.int .u64 0, .slice none 0 0, .int .i64 0] 111 (0, 0)), (b3, .cells #[.int .u64 a0, slcV st.2.2.2 st.2.2.1.length, .int .i64 0] 111 (0, 0))] [OwnR 15 198 (pl api_SpanPort.enc) st.2.2.2 st.2.2.1] ([GIn noK st.2.2.2 st.2.2.1, GIn noK (SkL.nil (fun _ => ())) ([] : List api_SpanPort), Row 1 (pl (encI .i64)) noK A00 a1, Row 1 (pl encB) noK A01 a2] ++ Glob)) (st := (0, 0, ([] : List api_SpanPort), (SkL.nil (fun _ => ())))) (fun n st hM => ?_) hM
  rcases n with _ | n
  ·exact nomatch (show (none : Option _) = some r from hM)
  obtain ⟨x24, x25, x26, A27⟩ := st
  replace hM : gangwayref15_New.l3 a1 a2 a0 (n + 1) x24 x25 x26 = some r := hM
  rw [gangwayref15_New.l3] at hM
  try dsimp only
  refine WP.seq (WP.seq (WP.rn [] [(24, .int .i64 x25), (25, slcV A00 a1.length), (26, .int .i64 (a1.length : Int)), (27, .bool (decide (x25 < (a1.length : Int))))] ?_))
  refine WP.cond (decide (x25 < (a1.length : Int))) rfl rfl (fun c28 => ?_) (fun c28 => ?_)
  ·replace hM := cond_t hM c28
   refine WP.skip (WP.seq (WP.block (WP.seq (WP.seq (WP.region (WL.rn 2 [] [(30, slcV A00 a1.length), (31, .int .i64 x25)] ?_))))))
   obtain ⟨t29, h30, hM⟩ := bind_some hM
   refine WL.valF (φ := Row 1 (pl (encI .i64)) noK A00 a1) (fact_at 2 rfl) (fun w hR => run_indexRowF (A := A00) (xs := a1) (i := x25) (k := .i64) (e := 3) (m := 1) (by kernel_rfl) (by kernel_rfl) h30 (by kernel_rfl) (by kernel_rfl) hR) (by kernel_rfl) (by kernel_rfl) rfl ?_
   refine WL.valF (φ := Row 1 (pl (encI .i64)) noK A00 a1) (fact_at 2 rfl) (fun w hR => run_loadRowF (A := A00) (xs := a1) (i := x25) (j := 0) (v := .int .i64 t29) h30 (fun _ => by kernel_rfl) (by kernel_rfl) (by kernel_rfl) hR) (by kernel_rfl) (by kernel_rfl) rfl ?_
   refine WL.rn 2 [] [(34, .bool (decide (t29 < 1))), (35, .bool (decide (t29 < 1)))] ?_
   refine WL.join (σ := Bool × Bool) 6 (fun st => gangwayref15_New.k2 a2 x25 a1 x26 x24 (gangwayref15_New.l3 a1 a2 a0 n) st.1 st.2 = some r) (fun st => [(1, slcV A00 a1.length), (2, slcV A01 a2.length), (6, .pointer (some ⟨b1, 0, none⟩)), (7, .int .i64 x24), (8, .pointer (some ⟨b3, 0, none⟩)), (9, .int .i64 x25), (24, .int .i64 x25), (25, slcV A00 a1.length), (26, .int .i64 (a1.length : Int)), (27, .bool (decide (x25 < (a1.length : Int)))), (30, slcV A00 a1.length), (31, .int .i64 x25), (32, ptrV A00 (Int.toNat x25 * 1)), (33, .int .i64 t29), (34, .bool (decide (t29 < 1))), (35, .bool st.1), (41, .bool st.2)]) (fun st => Sat w Z [(b1, .cells #[.int .u64 0, .slice none 0 0, .int .i64 0] 111 (0, 0)), (b3, .cells #[.int .u64 a0, slcV A27 x26.length, .int .i64 0] 111 (0, 0))] [OwnR 15 198 (pl api_SpanPort.enc) A27 x26] ([GIn noK A27 x26, GIn noK (SkL.nil (fun _ => ())) ([] : List api_SpanPort), Row 1 (pl (encI .i64)) noK A00 a1, Row 1 (pl encB) noK A01 a2] ++ Glob)) (fun st hM => ?_) (fun K2 => ?_)
   ·
    obtain ⟨x34, x35⟩ := st
    replace hM : gangwayref15_New.k2 a2 x25 a1 x26 x24 (gangwayref15_New.l3 a1 a2 a0 n) x34 x35 = some r := hM
    unfold gangwayref15_New.k2 at hM
    try dsimp only
    refine WP.done ?_
    refine WP.cond x35 rfl rfl (fun c36 => ?_) (fun c36 => ?_)
    ·replace hM := cond_t hM c36
     refine WP.seq (WP.rn [0, 0, 0] [(7, .int .i64 1), (42, .agg #[.int .u64 0, .slice none 0 0, .int .i64 0])] ?_)
     refine WP.know (Row 15 (pl api_SpanPort.enc) noK (SkL.nil (fun _ => ())) ([] : List api_SpanPort)) [] [] (by kernel_rfl) (fun w _ => RowP.empty (fun _ => rfl)) ?_
     refine WP.pickG (G' := []) [] [0] 1 rfl (by decide) (by kernel_rfl) ?_
     obtain rfl := Option.some.inj hM
     exact WP.ret [0, 0, 0] [b1, b1, b1] (.tuple #[.agg #[.int .u64 0, slcV (SkL.nil (fun _ => ())) ([] : List api_SpanPort).length, .int .i64 0], .int .i64 1]) (by kernel_rfl) (fun w' hw => ⟨(SkL.nil (fun _ => ())), rfl, (hw.pick [] (by kernel_rfl)).less (sub_ret [0] [3, 4] (by kernel_rfl) (by kernel_rfl))⟩)
    ·replace hM := cond_f hM c36
     refine WP.skip (WP.seq (WP.region (WL.rn 2 [] [(43, slcV A01 a2.length), (44, .int .i64 x25)] ?_)))
     obtain ⟨t37, h38, hM⟩ := bind_some hM
     refine WL.valF (φ := Row 1 (pl encB) noK A01 a2) (fact_at 3 rfl) (fun w hR => run_indexRowF (A := A01) (xs := a2) (i := x25) (k := .i64) (e := 4) (m := 1) (by kernel_rfl) (by kernel_rfl) h38 (by kernel_rfl) (by kernel_rfl) hR) (by kernel_rfl) (by kernel_rfl) rfl ?_
     refine WL.valF (φ := Row 1 (pl encB) noK A01 a2) (fact_at 3 rfl) (fun w hR => run_loadRowF (A := A01) (xs := a2) (i := x25) (j := 0) (v := .bool t37) h38 (fun _ => by kernel_rfl) (by kernel_rfl) (by kernel_rfl) hR) (by kernel_rfl) (by kernel_rfl) rfl ?_
     refine WL.rh 3 [2, 2, 2, 2, 2, 2, 2, 2, 2, 2, 2, 2, 2, 2, 2] (fun b39 => [(10, .pointer (some ⟨b39, 0, none⟩)), (47, .agg #[.bool false, .int .i64 0, .bool false, .int .u64 0, .int .i64 0, .int .u64 0, .int .i64 0, .int .i64 0, .bool t37, .int .i64 0, .int .i64 0, .int .i64 0, .int .i64 0, .bool false, .int .i64 0])]) (fun b39 => []) (fun b39 => [(b39, .cells #[.bool false, .int .i64 0, .bool false, .int .u64 0, .int .i64 0, .int .u64 0, .int .i64 0, .int .i64 0, .bool t37, .int .i64 0, .int .i64 0, .int .i64 0, .int .i64 0, .bool false, .int .i64 0] 198 (0, 0))]) (fun b39 => ?_)
     refine WP.done (WP.seq (WP.region (WL.rn 2 [] [(48, slcV A00 a1.length), (49, .int .i64 x25)] ?_)))
     obtain ⟨t40, h41, hM⟩ := bind_some hM
     refine WL.valF (φ := Row 1 (pl (encI .i64)) noK A00 a1) (fact_at 2 rfl) (fun w hR => run_indexRowF (A := A00) (xs := a1) (i := x25) (k := .i64) (e := 3) (m := 1) (by kernel_rfl) (by kernel_rfl) h41 (by kernel_rfl) (by kernel_rfl) hR) (by kernel_rfl) (by kernel_rfl) rfl ?_
     refine WL.valF (φ := Row 1 (pl (encI .i64)) noK A00 a1) (fact_at 2 rfl) (fun w hR => run_loadRowF (A := A00) (xs := a1) (i := x25) (j := 0) (v := .int .i64 t40) h41 (fun _ => by kernel_rfl) (by kernel_rfl) (by kernel_rfl) hR) (by kernel_rfl) (by kernel_rfl) rfl ?_
     refine WL.rh 3 [2] (fun _ => [(52, .pointer (some ⟨b39, 0, none⟩)), (53, .pointer (some ⟨b39, 1, none⟩))]) (fun _ => [(2, 1, [.int .i64 t40])]) (fun _ => []) (fun _ => ?_)
     refine WP.done (WP.region ?_)
     refine WL.rh 4 [1, 2, 2, 2, 2, 2, 2, 2, 2, 2, 2, 2, 2, 2, 2, 2] (fun b42 => [(54, .pointer (some ⟨b3, 1, none⟩)), (55, slcV A27 x26.length), (56, .agg #[.bool false, .int .i64 t40, .bool false, .int .u64 0, .int .i64 0, .int .u64 0, .int .i64 0, .int .i64 0, .bool t37, .int .i64 0, .int .i64 0, .int .i64 0, .int .i64 0, .bool false, .int .i64 0]), (57, .slice (some ⟨b42, 0, none⟩) 1 1)]) (fun b42 => []) (fun b42 => [(b42, .cells #[.bool false, .int .i64 t40, .bool false, .int .u64 0, .int .i64 0, .int .u64 0, .int .i64 0, .int .i64 0, .bool t37, .int .i64 0, .int .i64 0, .int .i64 0, .int .i64 0, .bool false, .int .i64 0] 198 (0, 0))]) (fun b42 => ?_)
     refine WL.ice (H' := [(b1, .cells #[.int .u64 0, .slice none 0 0, .int .i64 0] 111 (0, 0)), (b3, .cells #[.int .u64 a0, slcV A27 x26.length, .int .i64 0] 111 (0, 0)), (b39, .cells #[.bool false, .int .i64 t40, .bool false, .int .u64 0, .int .i64 0, .int .u64 0, .int .i64 0, .int .i64 0, .bool t37, .int .i64 0, .int .i64 0, .int .i64 0, .int .i64 0, .bool false, .int .i64 0] 198 (0, 0))]) (Row 15 (pl api_SpanPort.enc) noK (SkL.at b42 1 (fun _ => ())) ([(api_SpanPort.mk (api_View.mk false t40 false (api_Vector.mk 0 0 0 0 0)) t37 0 0 0 0 false 0)] : List api_SpanPort)) 3 (b := b42) (ob := .cells #[.bool false, .int .i64 t40, .bool false, .int .u64 0, .int .i64 0, .int .u64 0, .int .i64 0, .int .i64 0, .bool t37, .int .i64 0, .int .i64 0, .int .i64 0, .int .i64 0, .bool false, .int .i64 0] 198 (0, 0)) (by kernel_rfl) [] [] (by kernel_rfl) (fun w hb hψ => row_of_block hb (fun _ _ => rfl) ⟨[], by kernel_rfl⟩ (Nat.le_of_ble_eq_true rfl) (InK.no _ _)) (by kernel_rfl) ?_
     obtain ⟨u44, h43, hM⟩ := bind_some hM
     refine WL.growApp (G' := []) (A := A27) (B := (SkL.at b42 1 (fun _ => ()))) (xs := x26) (ys := ([(api_SpanPort.mk (api_View.mk false t40 false (api_Vector.mk 0 0 0 0 0)) t37 0 0 0 0 false 0)] : List api_SpanPort)) (m := 15) (by_ := 120) (e := 198) (z := .agg #[.bool false, .int .i64 0, .bool false, .int .u64 0, .int .i64 0, .int .u64 0, .int .i64 0, .int .i64 0, .bool false, .int .i64 0, .int .i64 0, .int .i64 0, .int .i64 0, .bool false, .int .i64 0]) (f := (pl api_SpanPort.enc)) (K := noK) (d := 58) 0 rfl rfl (by kernel_rfl) (by kernel_rfl) (by kernel_rfl) (by kernel_rfl) (by kernel_rfl) (fun _ _ => rfl) (fun _ _ => rfl) (by kernel_rfl) (by kernel_rfl) (by kernel_rfl) (by kernel_rfl) (by kernel_rfl) (fact_at 1 rfl) (fact_at 0 rfl) h43 (by kernel_rfl) (fun A45 => ?_)
     refine WL.less (Φ' := ([GIn noK A45 (x26 ++ ([(api_SpanPort.mk (api_View.mk false t40 false (api_Vector.mk 0 0 0 0 0)) t37 0 0 0 0 false 0)] : List api_SpanPort)), Row 15 (pl api_SpanPort.enc) noK (SkL.at b42 1 (fun _ => ())) ([(api_SpanPort.mk (api_View.mk false t40 false (api_Vector.mk 0 0 0 0 0)) t37 0 0 0 0 false 0)] : List api_SpanPort), GIn noK A27 x26, GIn noK (SkL.nil (fun _ => ())) ([] : List api_SpanPort), Row 1 (pl (encI .i64)) noK A00 a1, Row 1 (pl encB) noK A01 a2] ++ Glob)) (fun _ h => h) ?_
     refine WL.rh 2 [1] (fun _ => [(59, .pointer (some ⟨b3, 1, none⟩))]) (fun _ => [(1, 1, [slcV A45 (x26 ++ ([(api_SpanPort.mk (api_View.mk false t40 false (api_Vector.mk 0 0 0 0 0)) t37 0 0 0 0 false 0)] : List api_SpanPort)).length])]) (fun _ => []) (fun _ => ?_)
     refine WP.done (WP.leave (WP.rn [] [(9, .int .i64 (i64 (x25 + 1))), (28, .int .i64 x25), (29, .int .i64 (i64 (x25 + 1)))] ?_))
     exact WP.again' [1, 2, 6, 7, 8, 9] (x24, i64 (x25 + 1), (x26 ++ ([(api_SpanPort.mk (api_View.mk false t40 false (api_Vector.mk 0 0 0 0 0)) t37 0 0 0 0 false 0)] : List api_SpanPort)), A45) hM (by kernel_rfl) (fun _ h => ((h.pick [0, 1] (by kernel_rfl)).lessF [0, 3, 4, 5] (by kernel_rfl)).pickG [0] [] 1 rfl (by decide) (by kernel_rfl))
   ·
    refine WL.sp 35 (decide (t29 < 1)) (fun c31 => ?_) (fun c31 => ?_)
    ·replace hM := cond_t hM c31
     refine WL.rn 6 [] [(36, .tuple #[]), (37, .tuple #[]), (38, .tuple #[]), (39, .tuple #[]), (40, .tuple #[]), (41, .bool true)] ?_
     exact WL.sub [1, 2, 6, 7, 8, 9, 24, 25, 26, 27, 30, 31, 32, 33, 34, 35, 41] (by kernel_rfl) (WL.pick [0, 1] (by kernel_rfl) (by kernel_rfl) (WL.pickG [0] [] 1 rfl (by decide) (by kernel_rfl) (WL.lessF [0, 1, 2, 3] (by kernel_rfl) (K2 (true, true) hM))))
    ·replace hM := cond_f hM c31
     refine WL.rn 2 [] [(36, slcV A00 a1.length), (37, .int .i64 x25)] ?_
     obtain ⟨t32, h33, hM⟩ := bind_some hM
     refine WL.valF (φ := Row 1 (pl (encI .i64)) noK A00 a1) (fact_at 2 rfl) (fun w hR => run_indexRowF (A := A00) (xs := a1) (i := x25) (k := .i64) (e := 3) (m := 1) (by kernel_rfl) (by kernel_rfl) h33 (by kernel_rfl) (by kernel_rfl) hR) (by kernel_rfl) (by kernel_rfl) rfl ?_
     refine WL.valF (φ := Row 1 (pl (encI .i64)) noK A00 a1) (fact_at 2 rfl) (fun w hR => run_loadRowF (A := A00) (xs := a1) (i := x25) (j := 0) (v := .int .i64 t32) h33 (fun _ => by kernel_rfl) (by kernel_rfl) (by kernel_rfl) hR) (by kernel_rfl) (by kernel_rfl) rfl ?_
     refine WL.rn 2 [] [(40, .bool (decide (t32 > 16777216))), (41, .bool (decide (t32 > 16777216)))] ?_
     exact WL.sub [1, 2, 6, 7, 8, 9, 24, 25, 26, 27, 30, 31, 32, 33, 34, 35, 41] (by kernel_rfl) (WL.pick [0, 1] (by kernel_rfl) (by kernel_rfl) (WL.pickG [0] [] 1 rfl (by decide) (by kernel_rfl) (WL.lessF [0, 1, 2, 3] (by kernel_rfl) (K2 (false, decide (t32 > 16777216)) hM))))
  ·replace hM := cond_f hM c28
   refine WP.exit rfl (WP.seq ?_)
   refine WP.rh [1, 1, 1, 0, 0, 0] (fun _ => [(7, .int .i64 0)]) (fun _ => [(0, 0, [.int .u64 a0, slcV A27 x26.length])]) (fun _ => []) (fun _ => ?_)
   refine WP.kp [true, false] ?_
   refine WP.growIce (G' := []) (m := 15) (e := 198) (f := (pl api_SpanPort.enc)) (K := noK) (A := A27) (xs := x26) 0 0 (by kernel_rfl) (by kernel_rfl) (fun _ _ => rfl) (by kernel_rfl) ?_
   obtain rfl := Option.some.inj hM
   exact WP.ret [0, 0, 0] [b1, b1, b1] (.tuple #[.agg #[.int .u64 a0, slcV A27 x26.length, .int .i64 0], .int .i64 0]) (by kernel_rfl) (fun w' hw => ⟨A27, rfl, (hw.pick [] (by kernel_rfl)).less (sub_ret [0] [3, 4] (by kernel_rfl) (by kernel_rfl))⟩)
def gangwayref12_New.f (a0 : Int) (a1 : Int) : Option (Int) :=
 bif ((((decide (a0 < 1)) || (decide (a0 > 4096))) || (decide (a1 < 1))) || (decide (a1 > 1099511627776))) then
  some 1
 else
  some 0
theorem gangwayref12_New_calls (a0 : Int) (a1 : Int) (r : Int) (h : gangwayref12_New.f a0 a1 = some r) : Does Tryz.prog 63 #[.int .i64 a0, .int .i64 a1] [] ([] ++ Glob) (fun x : (Option Addr) => .tuple #[.pointer x, .int .i64 r]) (fun x => []) (fun _ => []) (fun x => [] ++ ([] ++ Glob)) := by
 intro w Z hS
 refine callsS (args := [.int .i64 a0, .int .i64 a1]) (L := [(0, .int .i64 a0), (1, .int .i64 a1)]) (N := 24) Tryz.func63 hS ?_
 have hM := h
 clear h hS
 unfold gangwayref12_New.f at hM
 refine WP.seq (WP.rn [] [(4, .pointer none), (5, .int .i64 0)] ?_)
 refine WP.seq (WP.seq (WP.region (WL.rn 3 [] [(8, .bool (decide (a0 < 1)))] ?_)))
 refine WL.bo 8 (decide (a0 < 1)) 3 [] [] (fun b' => [(11, .bool (b' || (decide (a0 > 4096))))]) ?_
 refine WL.rn 1 [] [(12, .bool ((decide (a0 < 1)) || (decide (a0 > 4096))))] ?_
 refine WL.bo 12 ((decide (a0 < 1)) || (decide (a0 > 4096))) 3 [] [] (fun b' => [(15, .bool (b' || (decide (a1 < 1))))]) ?_
 refine WL.rn 1 [] [(16, .bool (((decide (a0 < 1)) || (decide (a0 > 4096))) || (decide (a1 < 1))))] ?_
 refine WL.bo 16 (((decide (a0 < 1)) || (decide (a0 > 4096))) || (decide (a1 < 1))) 3 [] [] (fun b' => [(19, .bool (b' || (decide (a1 > 1099511627776))))]) ?_
 refine WP.done ?_
 refine WP.cond ((((decide (a0 < 1)) || (decide (a0 > 4096))) || (decide (a1 < 1))) || (decide (a1 > 1099511627776))) rfl rfl (fun c1 => ?_) (fun c1 => ?_)
 ·replace hM := cond_t hM c1
  refine WP.seq (WP.rn [] [(4, .pointer none), (5, .int .i64 1)] ?_)
  obtain rfl := Option.some.inj hM
  exact WP.ret [] [] (.tuple #[.pointer none, .int .i64 1]) (by kernel_rfl) (fun w' hw => ⟨(none : Option Addr), rfl, (hw.pick [] (by kernel_rfl)).less (sub_ret [] [] (by kernel_rfl) (by kernel_rfl))⟩)
 ·replace hM := cond_f hM c1
  refine WP.skip (WP.seq ?_)
  refine WP.rh [] (fun b2 => [(4, .pointer (some ⟨b2, 0, none⟩)), (5, .int .i64 0)]) (fun b2 => []) (fun b2 => [(b2, .cells #[.slice none 0 0, .int .i64 a0, .int .i64 a1] 222 (0, 0))]) (fun b2 => ?_)
  obtain rfl := Option.some.inj hM
  exact WP.ret [] [] (.tuple #[.pointer (some ⟨b2, 0, none⟩), .int .i64 0]) (by kernel_rfl) (fun w' hw => ⟨(some ⟨b2, 0, none⟩), rfl, (hw.pick [] (by kernel_rfl)).less (sub_ret [] [] (by kernel_rfl) (by kernel_rfl))⟩)
def gangwayref02_Group.f (a0 : Int) : Option (Bool) :=
 some ((Int.tmod (u64 (Int.tdiv a0 1099511627776)) 2) == 1)
theorem gangwayref02_Group_calls (a0 : Int) (r : Bool) (h : gangwayref02_Group.f a0 = some r) : Pure Tryz.prog Glob 141 #[.int .u64 a0] (.bool r) := by
 intro w Z hS
 refine callsS (args := [.int .u64 a0]) (L := [(0, .int .u64 a0)]) (N := 7) Tryz.func141 hS ?_
 have hM := h
 clear h hS
 unfold gangwayref02_Group.f at hM
 refine WP.seq (WP.rn [] [(2, .bool false)] ?_)
 refine WP.seq (WP.rn [] [(2, .bool ((Int.tmod (u64 (Int.tdiv a0 1099511627776)) 2) == 1))] ?_)
 obtain rfl := Option.some.inj hM
 exact WP.retQ [] []
def gangwayref02_Own.k1 (x4 : Bool) : Option (Bool) :=
 some x4
def gangwayref02_Own.f (a0 : Int) : Option (Bool) :=
 bif ((decide (a0 > 0)) && (decide (a0 < 281474976710656))) then
  (gangwayref02_Group.f a0).bind fun r2 =>
  gangwayref02_Own.k1 (!r2)
 else
  gangwayref02_Own.k1 false
theorem gangwayref02_Own_calls (a0 : Int) (r : Bool) (h : gangwayref02_Own.f a0 = some r) : Pure Tryz.prog Glob 110 #[.int .u64 a0] (.bool r) := by
 intro w Z hS
 refine callsS (args := [.int .u64 a0]) (L := [(0, .int .u64 a0)]) (N := 14) Tryz.func110 hS ?_
 have hM := h
 clear h hS
 unfold gangwayref02_Own.f at hM
 refine WP.seq (WP.rn [] [(2, .bool false)] ?_)
 refine WP.seq (WP.region (WL.rn 3 [] [(5, .bool (decide (a0 > 0)))] ?_))
 refine WL.bo 5 (decide (a0 > 0)) 3 [] [] (fun b' => [(8, .bool (b' && (decide (a0 < 281474976710656))))]) ?_
 refine WL.rn 1 [] [(9, .bool ((decide (a0 > 0)) && (decide (a0 < 281474976710656))))] ?_
 refine WL.join (σ := Bool) 4 (fun st => gangwayref02_Own.k1 st = some r) (fun st => [(2, .bool false), (13, .bool st)]) (fun st => Sat w Z [] [] Glob) (fun st hM => ?_) (fun K1 => ?_)
 ·
  obtain ⟨x4, rfl⟩ : ∃ y, y = st := ⟨st, rfl⟩
  replace hM : gangwayref02_Own.k1 x4 = some r := hM
  unfold gangwayref02_Own.k1 at hM
  try dsimp only
  refine WL.rn 1 [] [(2, .bool x4)] ?_
  refine WP.done ?_
  obtain rfl := Option.some.inj hM
  exact WP.retQ [] []
 ·
  refine WL.sp 9 ((decide (a0 > 0)) && (decide (a0 < 281474976710656))) (fun c1 => ?_) (fun c1 => ?_)
  ·replace hM := cond_t hM c1
   refine WL.rn 1 [] [(10, .int .u64 a0)] ?_
   obtain ⟨r2, h3, hM⟩ := bind_some hM
   refine WL.callP [] [] (gangwayref02_Group_calls a0 _ h3) (fun _ h => h) (by kernel_rfl) (by kernel_rfl) rfl ?_
   refine WL.rn 2 [] [(13, .bool (!r2))] ?_
   exact WL.sub [2, 13] (by kernel_rfl) (WL.pick [] (by kernel_rfl) (by kernel_rfl) (K1 (!r2) hM))
  ·replace hM := cond_f hM c1
   refine WL.rn 4 [] [(13, .bool false)] ?_
   exact WL.sub [2, 13] (by kernel_rfl) (WL.pick [] (by kernel_rfl) (by kernel_rfl) (K1 false hM))
def gangwayref19_few.f (a0 : Int) : Option (Bool) :=
 some ((decide (a0 ≥ 1)) && (decide (a0 ≤ 64)))
theorem gangwayref19_few_calls (a0 : Int) (r : Bool) (h : gangwayref19_few.f a0 = some r) : Pure Tryz.prog Glob 111 #[.int .i64 a0] (.bool r) := by
 intro w Z hS
 refine callsS (args := [.int .i64 a0]) (L := [(0, .int .i64 a0)]) (N := 9) Tryz.func111 hS ?_
 have hM := h
 clear h hS
 unfold gangwayref19_few.f at hM
 refine WP.seq (WP.rn [] [(2, .bool false)] ?_)
 refine WP.seq (WP.region (WL.rn 3 [] [(5, .bool (decide (a0 ≥ 1)))] ?_))
 refine WL.bo 5 (decide (a0 ≥ 1)) 3 [] [] (fun b' => [(8, .bool (b' && (decide (a0 ≤ 64))))]) ?_
 refine WL.rn 1 [] [(2, .bool ((decide (a0 ≥ 1)) && (decide (a0 ≤ 64))))] ?_
 refine WP.done ?_
 obtain rfl := Option.some.inj hM
 exact WP.retQ [] []
def gangwayref19_New.k1 (x20 : Bool) : Option (Int) :=
 bif x20 then
  some 1
 else
  some 0
def gangwayref19_New.k2 (a0 : api_Near) (x16 : Bool) : Option (Int) :=
 bif x16 then
  gangwayref19_New.k1 true
 else
  (gangwayref19_few.f a0.Apart).bind fun r18 =>
  gangwayref19_New.k1 (!r18)
def gangwayref19_New.k3 (a0 : api_Near) (x12 : Bool) : Option (Int) :=
 bif x12 then
  gangwayref19_New.k2 a0 true
 else
  (gangwayref19_few.f a0.Tries).bind fun r14 =>
  gangwayref19_New.k2 a0 (!r14)
def gangwayref19_New.k4 (a0 : api_Near) (x8 : Bool) : Option (Int) :=
 bif (x8 || (a0.Ip == 0)) then
  gangwayref19_New.k3 a0 true
 else
  (gangwayref19_few.f a0.Pend).bind fun r10 =>
  gangwayref19_New.k3 a0 (!r10)
def gangwayref19_New.f (a0 : api_Near) : Option (Int) :=
 (gangwayref10_New.f a0.Room a0.Life).bind fun r2 =>
 bif (r2 != 0) then
  gangwayref19_New.k4 a0 true
 else
  (gangwayref02_Own.f a0.Mac).bind fun r6 =>
  gangwayref19_New.k4 a0 (!r6)
theorem gangwayref19_New_calls (a0 : api_Near) (r : Int) (h : gangwayref19_New.f a0 = some r) : Does Tryz.prog 64 #[api_Near.v a0] [] ([] ++ Glob) (fun x : (Option Addr) => .tuple #[.pointer x, .int .i64 r]) (fun x => []) (fun _ => []) (fun x => [] ++ ([] ++ Glob)) := by
 intro w Z hS
 refine callsS (args := [api_Near.v a0]) (L := [(0, api_Near.v a0)]) (N := 49) Tryz.func64 hS ?_
 have hM := h
 clear h hS
 unfold gangwayref19_New.f at hM
 refine WP.seq ?_
 refine WP.rh [] (fun b1 => [(1, .pointer (some ⟨b1, 0, none⟩)), (2, .pointer none), (3, .int .i64 0)]) (fun b1 => []) (fun b1 => [(b1, api_Near.o a0)]) (fun b1 => ?_)
 refine WP.seq (WP.region (WL.rn 4 [0, 0] [(8, .int .i64 a0.Room), (10, .int .i64 a0.Life)] ?_))
 obtain ⟨r2, h3, hM⟩ := bind_some hM
 refine WL.callX (F0 := []) [] [] [false] (fun _ => _) [] (by kernel_rfl) (gangwayref10_New_calls a0.Room a0.Life _ h3) rfl rfl (by kernel_rfl) (by kernel_rfl) (fun _ => rfl) (fun A4 => ?_)
 refine WL.rn 5 [] [(4, .pointer A4), (5, .int .i64 r2)] ?_
 refine WP.done (WP.seq (WP.seq (WP.region (WL.rn 3 [] [(16, .bool (r2 != 0))] ?_))))
 refine WL.join (σ := Bool) 5 (fun st => gangwayref19_New.k4 a0 st = some r) (fun st => [(1, .pointer (some ⟨b1, 0, none⟩)), (2, .pointer none), (3, .int .i64 0), (4, .pointer A4), (21, .bool st)]) (fun st => Sat w Z [(b1, api_Near.o a0)] [] ([] ++ Glob)) (fun st hM => ?_) (fun K4 => ?_)
 ·
  obtain ⟨x8, rfl⟩ : ∃ y, y = st := ⟨st, rfl⟩
  replace hM : gangwayref19_New.k4 a0 x8 = some r := hM
  unfold gangwayref19_New.k4 at hM
  try dsimp only
  refine WL.rn 1 [] [(22, .bool x8)] ?_
  refine WL.bo 22 x8 4 [] [0] (fun b' => [(26, .bool (b' || (a0.Ip == 0)))]) ?_
  refine WL.rn 1 [] [(27, .bool (x8 || (a0.Ip == 0)))] ?_
  refine WL.join (σ := Bool) 5 (fun st => gangwayref19_New.k3 a0 st = some r) (fun st => [(1, .pointer (some ⟨b1, 0, none⟩)), (2, .pointer none), (3, .int .i64 0), (4, .pointer A4), (32, .bool st)]) (fun st => Sat w Z [(b1, api_Near.o a0)] [] ([] ++ Glob)) (fun st hM => ?_) (fun K3 => ?_)
  ·
   obtain ⟨x12, rfl⟩ : ∃ y, y = st := ⟨st, rfl⟩
   replace hM : gangwayref19_New.k3 a0 x12 = some r := hM
   unfold gangwayref19_New.k3 at hM
   try dsimp only
   refine WL.rn 1 [] [(33, .bool x12)] ?_
   refine WL.join (σ := Bool) 5 (fun st => gangwayref19_New.k2 a0 st = some r) (fun st => [(1, .pointer (some ⟨b1, 0, none⟩)), (2, .pointer none), (3, .int .i64 0), (4, .pointer A4), (38, .bool st)]) (fun st => Sat w Z [(b1, api_Near.o a0)] [] ([] ++ Glob)) (fun st hM => ?_) (fun K2 => ?_)
   ·
    obtain ⟨x16, rfl⟩ : ∃ y, y = st := ⟨st, rfl⟩
    replace hM : gangwayref19_New.k2 a0 x16 = some r := hM
    unfold gangwayref19_New.k2 at hM
    try dsimp only
    refine WL.rn 1 [] [(39, .bool x16)] ?_
    refine WL.join (σ := Bool) 5 (fun st => gangwayref19_New.k1 st = some r) (fun st => [(1, .pointer (some ⟨b1, 0, none⟩)), (2, .pointer none), (3, .int .i64 0), (4, .pointer A4), (44, .bool st)]) (fun st => Sat w Z [(b1, api_Near.o a0)] [] ([] ++ Glob)) (fun st hM => ?_) (fun K1 => ?_)
    ·
     obtain ⟨x20, rfl⟩ : ∃ y, y = st := ⟨st, rfl⟩
     replace hM : gangwayref19_New.k1 x20 = some r := hM
     unfold gangwayref19_New.k1 at hM
     try dsimp only
     refine WP.done ?_
     refine WP.cond x20 rfl rfl (fun c21 => ?_) (fun c21 => ?_)
     ·replace hM := cond_t hM c21
      refine WP.seq (WP.rn [] [(2, .pointer none), (3, .int .i64 1)] ?_)
      obtain rfl := Option.some.inj hM
      exact WP.ret [] [] (.tuple #[.pointer none, .int .i64 1]) (by kernel_rfl) (fun w' hw => ⟨(none : Option Addr), rfl, (hw.pick [] (by kernel_rfl)).less (sub_ret [] [] (by kernel_rfl) (by kernel_rfl))⟩)
     ·replace hM := cond_f hM c21
      refine WP.skip (WP.seq ?_)
      refine WP.rh [0, 0, 0, 0, 0, 0, 0] (fun b22 => [(2, .pointer (some ⟨b22, 0, none⟩)), (3, .int .i64 0)]) (fun b22 => []) (fun b22 => [(b22, .cells #[.int .u64 a0.Mac, .int .u32 a0.Ip, .int .i64 a0.Room, .int .i64 a0.Life, .int .i64 a0.Pend, .int .i64 a0.Tries, .int .i64 a0.Apart, .pointer A4, .slice none 0 0, .slice none 0 0, .int .i64 0] 228 (0, 0))]) (fun b22 => ?_)
      refine WP.kp [false, true] ?_
      obtain rfl := Option.some.inj hM
      exact WP.ret [] [] (.tuple #[.pointer (some ⟨b22, 0, none⟩), .int .i64 0]) (by kernel_rfl) (fun w' hw => ⟨(some ⟨b22, 0, none⟩), rfl, (hw.pick [] (by kernel_rfl)).less (sub_ret [] [] (by kernel_rfl) (by kernel_rfl))⟩)
    ·
     refine WL.sp 39 x16 (fun c17 => ?_) (fun c17 => ?_)
     ·replace hM := cond_t hM c17
      refine WL.rn 5 [] [(44, .bool true)] ?_
      exact WL.sub [1, 2, 3, 4, 44] (by kernel_rfl) (WL.pick [0] (by kernel_rfl) (by kernel_rfl) (WL.lessF [] (by kernel_rfl) (K1 true hM)))
     ·replace hM := cond_f hM c17
      refine WL.rn 2 [0] [(41, .int .i64 a0.Apart)] ?_
      obtain ⟨r18, h19, hM⟩ := bind_some hM
      refine WL.callP [] [] (gangwayref19_few_calls a0.Apart _ h19) (fun _ h => List.mem_append_right _ h) (by kernel_rfl) (by kernel_rfl) rfl ?_
      refine WL.rn 2 [] [(44, .bool (!r18))] ?_
      exact WL.sub [1, 2, 3, 4, 44] (by kernel_rfl) (WL.pick [0] (by kernel_rfl) (by kernel_rfl) (WL.lessF [] (by kernel_rfl) (K1 (!r18) hM)))
   ·
    refine WL.sp 33 x12 (fun c13 => ?_) (fun c13 => ?_)
    ·replace hM := cond_t hM c13
     refine WL.rn 5 [] [(38, .bool true)] ?_
     exact WL.sub [1, 2, 3, 4, 38] (by kernel_rfl) (WL.pick [0] (by kernel_rfl) (by kernel_rfl) (WL.lessF [] (by kernel_rfl) (K2 true hM)))
    ·replace hM := cond_f hM c13
     refine WL.rn 2 [0] [(35, .int .i64 a0.Tries)] ?_
     obtain ⟨r14, h15, hM⟩ := bind_some hM
     refine WL.callP [] [] (gangwayref19_few_calls a0.Tries _ h15) (fun _ h => List.mem_append_right _ h) (by kernel_rfl) (by kernel_rfl) rfl ?_
     refine WL.rn 2 [] [(38, .bool (!r14))] ?_
     exact WL.sub [1, 2, 3, 4, 38] (by kernel_rfl) (WL.pick [0] (by kernel_rfl) (by kernel_rfl) (WL.lessF [] (by kernel_rfl) (K2 (!r14) hM)))
  ·
   refine WL.sp 27 (x8 || (a0.Ip == 0)) (fun c9 => ?_) (fun c9 => ?_)
   ·replace hM := cond_t hM c9
    refine WL.rn 5 [] [(32, .bool true)] ?_
    exact WL.sub [1, 2, 3, 4, 32] (by kernel_rfl) (WL.pick [0] (by kernel_rfl) (by kernel_rfl) (WL.lessF [] (by kernel_rfl) (K3 true hM)))
   ·replace hM := cond_f hM c9
    refine WL.rn 2 [0] [(29, .int .i64 a0.Pend)] ?_
    obtain ⟨r10, h11, hM⟩ := bind_some hM
    refine WL.callP [] [] (gangwayref19_few_calls a0.Pend _ h11) (fun _ h => List.mem_append_right _ h) (by kernel_rfl) (by kernel_rfl) rfl ?_
    refine WL.rn 2 [] [(32, .bool (!r10))] ?_
    exact WL.sub [1, 2, 3, 4, 32] (by kernel_rfl) (WL.pick [0] (by kernel_rfl) (by kernel_rfl) (WL.lessF [] (by kernel_rfl) (K3 (!r10) hM)))
 ·
  refine WL.sp 16 (r2 != 0) (fun c5 => ?_) (fun c5 => ?_)
  ·replace hM := cond_t hM c5
   refine WL.rn 5 [] [(21, .bool true)] ?_
   exact WL.sub [1, 2, 3, 4, 21] (by kernel_rfl) (WL.pick [0] (by kernel_rfl) (by kernel_rfl) (WL.lessF [] (by kernel_rfl) (K4 true hM)))
  ·replace hM := cond_f hM c5
   refine WL.rn 2 [0] [(18, .int .u64 a0.Mac)] ?_
   obtain ⟨r6, h7, hM⟩ := bind_some hM
   refine WL.callP [] [] (gangwayref02_Own_calls a0.Mac _ h7) (fun _ h => List.mem_append_right _ h) (by kernel_rfl) (by kernel_rfl) rfl ?_
   refine WL.rn 2 [] [(21, .bool (!r6))] ?_
   exact WL.sub [1, 2, 3, 4, 21] (by kernel_rfl) (WL.pick [0] (by kernel_rfl) (by kernel_rfl) (WL.lessF [] (by kernel_rfl) (K4 (!r6) hM)))
def gangwayref02_size.l1 : Nat → Int → Int → Option (Int)
 | 0, _, _ => none
 | n + 1, x2, x3 =>
  bif decide (x3 < 32) then
   gangwayref02_size.l1 n (u64 (2 * x2)) (i64 (x3 + 1))
  else
   some x2
def gangwayref02_size.f (k : Nat) (a0 : api_Net) : Option (Int) :=
 gangwayref02_size.l1 k 1 a0.Bits
theorem gangwayref02_size_calls (k : Nat) (a0 : api_Net) (r : Int) (h : gangwayref02_size.f k a0 = some r) : Pure Tryz.prog Glob 152 #[api_Net.v a0] (.int .u64 r) := by
 intro w Z hS
 refine callsS (args := [api_Net.v a0]) (L := [(0, api_Net.v a0)]) (N := 14) Tryz.func152 hS ?_
 have hM := h
 clear h hS
 unfold gangwayref02_size.f at hM
 refine WP.seq ?_
 refine WP.rh [] (fun b1 => [(1, .pointer (some ⟨b1, 0, none⟩)), (2, .int .u64 0)]) (fun b1 => []) (fun b1 => [(b1, api_Net.o a0)]) (fun b1 => ?_)
 refine WP.seq (WP.rn [] [(3, .int .u64 1)] ?_)
 refine WP.seq (WP.seq (WP.rn [0] [(4, .int .i64 a0.Bits)] ?_))
 refine WP.kp [false] ?_
 refine WP.block (WP.sub [2, 3, 4] (L' := [(2, .int .u64 0), (3, .int .u64 1), (4, .int .i64 a0.Bits)]) (by kernel_rfl) ?_)
 refine WP.loop (σ := Int × Int) (fun n st => gangwayref02_size.l1 n st.1 st.2) r (fun st => [(2, .int .u64 0), (3, .int .u64 st.1), (4, .int .i64 st.2)]) (fun st => Sat w Z [] [] Glob) (st := (1, a0.Bits)) (fun n st hM => ?_) hM
 rcases n with _ | n
 ·exact nomatch (show (none : Option _) = some r from hM)
 obtain ⟨x2, x3⟩ := st
 replace hM : gangwayref02_size.l1 (n + 1) x2 x3 = some r := hM
 rw [gangwayref02_size.l1] at hM
 try dsimp only
 refine WP.seq (WP.seq (WP.rn [] [(7, .int .i64 x3), (8, .bool (decide (x3 < 32)))] ?_))
 refine WP.cond (decide (x3 < 32)) rfl rfl (fun c4 => ?_) (fun c4 => ?_)
 ·replace hM := cond_t hM c4
  refine WP.skip (WP.seq (WP.block (WP.rn [] [(3, .int .u64 (u64 (2 * x2))), (11, .int .u64 x2), (12, .int .u64 (u64 (2 * x2)))] ?_)))
  refine WP.leave (WP.rn [] [(4, .int .i64 (i64 (x3 + 1))), (9, .int .i64 x3), (10, .int .i64 (i64 (x3 + 1)))] ?_)
  exact WP.again' [2, 3, 4] (u64 (2 * x2), i64 (x3 + 1)) hM (by kernel_rfl) (fun _ h => h.pick [] (by kernel_rfl))
 ·replace hM := cond_f hM c4
  refine WP.exit rfl (WP.seq (WP.rn [] [(2, .int .u64 x2)] ?_))
  obtain rfl := Option.some.inj hM
  exact WP.retQ [] []
def gangwayref02_Net.k1 (x7 : Bool) : Option (Bool) :=
 some x7
def gangwayref02_Net.f (k : Nat) (a0 : api_Net) : Option (Bool) :=
 bif ((decide (a0.Bits ≥ 0)) && (decide (a0.Bits ≤ 32))) then
  (gangwayref02_size.f k a0).bind fun r3 =>
  (remI (u64 a0.Ip) r3).bind fun t5 =>
  gangwayref02_Net.k1 (t5 == 0)
 else
  gangwayref02_Net.k1 false
theorem gangwayref02_Net_calls (k : Nat) (a0 : api_Net) (r : Bool) (h : gangwayref02_Net.f k a0 = some r) : Pure Tryz.prog Glob 142 #[api_Net.v a0] (.bool r) := by
 intro w Z hS
 refine callsS (args := [api_Net.v a0]) (L := [(0, api_Net.v a0)]) (N := 20) Tryz.func142 hS ?_
 have hM := h
 clear h hS
 unfold gangwayref02_Net.f at hM
 refine WP.seq ?_
 refine WP.rh [] (fun b1 => [(1, .pointer (some ⟨b1, 0, none⟩)), (2, .bool false)]) (fun b1 => []) (fun b1 => [(b1, api_Net.o a0)]) (fun b1 => ?_)
 refine WP.seq (WP.quiet (by kernel_rfl) (by kernel_rfl) ?_)
 refine QL.rn 4 [0] [(6, .bool (decide (a0.Bits ≥ 0)))] ?_
 refine QL.bo 6 (decide (a0.Bits ≥ 0)) 4 [0] [] (fun b' => [(10, .bool (b' && (decide (a0.Bits ≤ 32))))]) ?_
 refine QL.rn 1 [] [(11, .bool ((decide (a0.Bits ≥ 0)) && (decide (a0.Bits ≤ 32))))] ?_
 refine QL.join (σ := Bool) 8 (fun st => gangwayref02_Net.k1 st = some r) (fun st => [(2, .bool false), (19, .bool st)]) (fun st hM => ?_) (fun K1 => ?_)
 ·
  obtain ⟨x7, rfl⟩ : ∃ y, y = st := ⟨st, rfl⟩
  replace hM : gangwayref02_Net.k1 x7 = some r := hM
  unfold gangwayref02_Net.k1 at hM
  show QL _ _ _ _ _ _ [(2, .bool false), (19, .bool x7)]
  refine QL.rn 1 [] [(2, .bool x7)] ?_
  refine QL.done ?_
  refine WP.kp [false] ?_
  obtain rfl := Option.some.inj hM
  exact WP.retQ [] []
 ·
  refine QL.sp 11 ((decide (a0.Bits ≥ 0)) && (decide (a0.Bits ≤ 32))) (fun c2 => ?_) (fun c2 => ?_)
  ·replace hM := cond_t hM c2
   refine QL.rn 4 [0, 0, 0] [(14, .int .u64 (u64 a0.Ip)), (15, api_Net.v a0)] ?_
   obtain ⟨r3, h4, hM⟩ := bind_some hM
   refine QL.callP [] [] (gangwayref02_size_calls k a0 _ h4) (fun _ h => h) (by kernel_rfl) (by kernel_rfl) rfl ?_
   obtain ⟨t5, h6, hM⟩ := bind_some hM
   refine QL.val (fun _ => run_rem (k := .u64) (a := u64 a0.Ip) (b := r3) (by kernel_rfl) (by kernel_rfl) h6) (by kernel_rfl) (by kernel_rfl) rfl ?_
   refine QL.rn 2 [] [(19, .bool (t5 == 0))] ?_
   exact QL.sub [2, 19] (by kernel_rfl) (K1 (t5 == 0) hM)
  ·replace hM := cond_f hM c2
   refine QL.rn 8 [] [(19, .bool false)] ?_
   exact QL.sub [2, 19] (by kernel_rfl) (K1 false hM)
def gangwayref18_Table_place_1.l1 (a0 : (List api_Route)) (a1 : api_Net) : Nat → Int → Int → Option (Int)
 | 0, _, _ => none
 | n + 1, x2, x3 =>
  bif decide (x3 < (a0.length : Int)) then
   (getL a0.length a0 x3).bind fun t5 =>
   bif ((t5.To.Ip == a1.Ip) && ((t5.To.Bits == a1.Bits) && true)) then
    some x3
   else
    gangwayref18_Table_place_1.l1 a0 a1 n x2 (i64 (x3 + 1))
  else
   some (-1)
def gangwayref18_Table_place_1.f (k : Nat) (a0 : (List api_Route)) (a1 : api_Net) : Option (Int) :=
 gangwayref18_Table_place_1.l1 a0 a1 k 0 0
theorem gangwayref18_Table_place_1_calls (k : Nat) (b_0 : Nat) (A00 : SkL Unit) (a0 : (List api_Route)) (a1 : api_Net) (r : Int) (h : gangwayref18_Table_place_1.f k a0 a1 = some r) : DoesG Tryz.prog 143 #[.pointer (some ⟨b_0, 0, none⟩), api_Net.v a1] [(b_0, .cells #[slcV A00 a0.length] 230 (0, 0))] [OwnR 3 162 (pl api_Route.enc) A00 a0] ([GIn noK A00 a0] ++ Glob) (fun x : Unit => .int .i64 r) (fun x => [(b_0, .cells #[slcV A00 a0.length] 230 (0, 0))]) (fun x => [OwnR 3 162 (pl api_Route.enc) A00 a0]) (fun x => [] ++ ([GIn noK A00 a0] ++ Glob)) := by
 intro w Z hS
 refine callsS (args := [.pointer (some ⟨b_0, 0, none⟩), api_Net.v a1]) (L := [(0, .pointer (some ⟨b_0, 0, none⟩)), (1, api_Net.v a1)]) (N := 26) Tryz.func143 hS ?_
 have hM := h
 clear h hS
 unfold gangwayref18_Table_place_1.f at hM
 refine WP.seq ?_
 refine WP.rh [] (fun b1 => [(3, .pointer (some ⟨b1, 0, none⟩)), (4, .int .i64 0)]) (fun b1 => []) (fun b1 => [(b1, api_Net.o a1)]) (fun b1 => ?_)
 refine WP.seq (WP.seq (WP.rn [] [(5, .int .i64 0)] ?_))
 refine WP.block ?_
 refine WP.sub [0, 3, 4, 5] (L' := [(0, .pointer (some ⟨b_0, 0, none⟩)), (3, .pointer (some ⟨b1, 0, none⟩)), (4, .int .i64 0), (5, .int .i64 0)]) (by kernel_rfl) ?_
 refine WP.lessF [0] (F' := [GIn noK A00 a0]) (by kernel_rfl) ?_
 refine WP.loop (σ := Int × Int) (fun n st => gangwayref18_Table_place_1.l1 a0 a1 n st.1 st.2) r (fun st => [(0, .pointer (some ⟨b_0, 0, none⟩)), (3, .pointer (some ⟨b1, 0, none⟩)), (4, .int .i64 st.1), (5, .int .i64 st.2)]) (fun st => Sat w Z [(b_0, .cells #[slcV A00 a0.length] 230 (0, 0)), (b1, api_Net.o a1)] [OwnR 3 162 (pl api_Route.enc) A00 a0] ([GIn noK A00 a0] ++ Glob)) (st := (0, 0)) (fun n st hM => ?_) hM
 rcases n with _ | n
 ·exact nomatch (show (none : Option _) = some r from hM)
 obtain ⟨x2, x3⟩ := st
 replace hM : gangwayref18_Table_place_1.l1 a0 a1 (n + 1) x2 x3 = some r := hM
 rw [gangwayref18_Table_place_1.l1] at hM
 try dsimp only
 refine WP.seq (WP.seq ?_)
 refine WP.rn [0] [(6, .int .i64 x3), (7, .pointer (some ⟨b_0, 0, none⟩)), (8, .pointer (some ⟨b_0, 0, none⟩)), (9, .pointer (some ⟨b_0, 0, none⟩)), (10, slcV A00 a0.length), (11, .int .i64 (a0.length : Int)), (12, .bool (decide (x3 < (a0.length : Int))))] ?_
 refine WP.cond (decide (x3 < (a0.length : Int))) rfl rfl (fun c4 => ?_) (fun c4 => ?_)
 ·replace hM := cond_t hM c4
  refine WP.skip (WP.seq (WP.block (WP.seq (WP.quiet (by kernel_rfl) (by kernel_rfl) ?_))))
  refine QL.rn 5 [0] [(15, .pointer (some ⟨b_0, 0, none⟩)), (16, .pointer (some ⟨b_0, 0, none⟩)), (17, .pointer (some ⟨b_0, 0, none⟩)), (18, slcV A00 a0.length), (19, .int .i64 x3)] ?_
  obtain ⟨t5, h6, hM⟩ := bind_some hM
  refine QL.valG (m := 3) (e := 162) (f := (pl api_Route.enc)) (K := noK) (A := A00) (xs := a0) 0 (by kernel_rfl) (fun _ _ => rfl) (fact_at 0 rfl) (fun w hR => run_indexRowF (A := A00) (xs := a0) (i := x3) (k := .i64) (e := 162) (m := 3) (by kernel_rfl) (by kernel_rfl) h6 (by kernel_rfl) (by kernel_rfl) hR) (by kernel_rfl) (by kernel_rfl) rfl ?_
  refine QL.valG (m := 3) (e := 162) (f := (pl api_Route.enc)) (K := noK) (A := A00) (xs := a0) 0 (by kernel_rfl) (fun _ _ => rfl) (fact_at 0 rfl) (fun w hR => run_fieldRowF (A := A00) (xs := a0) (i := x3) (n := Int.toNat x3 * 3 + 0) (n' := Int.toNat x3 * 3 + 0) h6 (by kernel_rfl) (fun _ _ => by kernel_rfl) hR) (by kernel_rfl) (by kernel_rfl) rfl ?_
  refine QL.valG (m := 3) (e := 162) (f := (pl api_Route.enc)) (K := noK) (A := A00) (xs := a0) 0 (by kernel_rfl) (fun _ _ => rfl) (fact_at 0 rfl) (fun w hR => run_loadRowFA (A := A00) (xs := a0) (i := x3) (j := 0) (n := 2) (vs := [.int .u32 t5.To.Ip, .int .i64 t5.To.Bits]) h6 (fun _ => by kernel_rfl) (by kernel_rfl) (by kernel_rfl) (by kernel_rfl) rfl hR) (by kernel_rfl) (by kernel_rfl) rfl ?_
  refine QL.rn 1 [1, 1] [(23, api_Net.v a1)] ?_
  refine QL.val (fun _ => run_structEq (xs := #[.int .u32 t5.To.Ip, .int .i64 t5.To.Bits]) (ys := #[.int .u32 a1.Ip, .int .i64 a1.Bits]) (b := ((t5.To.Ip == a1.Ip) && ((t5.To.Bits == a1.Bits) && true))) (by kernel_rfl) (by kernel_rfl) (by kernel_rfl) (by kernel_rfl)) (by kernel_rfl) (by kernel_rfl) rfl ?_
  refine QL.done ?_
  refine WP.cond ((t5.To.Ip == a1.Ip) && ((t5.To.Bits == a1.Bits) && true)) rfl rfl (fun c7 => ?_) (fun c7 => ?_)
  ·replace hM := cond_t hM c7
   refine WP.seq (WP.rn [] [(4, .int .i64 x3), (25, .int .i64 x3)] ?_)
   obtain rfl := Option.some.inj hM
   exact WP.ret [] [] (.int .i64 x3) (by kernel_rfl) (fun w' hw => ⟨(), rfl, (hw.pick [0] (by kernel_rfl)).less (sub_ret [] [0] (by kernel_rfl) (by kernel_rfl))⟩)
  ·replace hM := cond_f hM c7
   refine WP.skip (WP.leave (WP.rn [] [(5, .int .i64 (i64 (x3 + 1))), (13, .int .i64 x3), (14, .int .i64 (i64 (x3 + 1)))] ?_))
   exact WP.again' [0, 3, 4, 5] (x2, i64 (x3 + 1)) hM (by kernel_rfl) (fun _ h => ((h.pick [0, 1] (by kernel_rfl)).lessF [0] (by kernel_rfl)).pickG [0] [] 1 rfl (by decide) (by kernel_rfl))
 ·replace hM := cond_f hM c4
  refine WP.exit rfl (WP.seq (WP.rn [] [(4, .int .i64 (-1))] ?_))
  refine WP.kp [true, false] ?_
  obtain rfl := Option.some.inj hM
  exact WP.ret [] [] (.int .i64 (-1)) (by kernel_rfl) (fun w' hw => ⟨(), rfl, (hw.pick [0] (by kernel_rfl)).less (sub_ret [] [0] (by kernel_rfl) (by kernel_rfl))⟩)
def gangwayref18_Table_Put_1.f (k : Nat) (a0 : (List api_Route)) (a1 : api_Route) : Option (Int × (List api_Route)) :=
 (gangwayref02_Net.f k a1.To).bind fun r2 =>
 bif !r2 then
  some (180, a0)
 else
  (gangwayref18_Table_place_1.f k a0 a1.To).bind fun r5 =>
  bif decide (r5 ≥ 0) then
   (getL a0.length a0 r5).bind fun t9 =>
   some (0, (List.set a0 (Int.toNat r5) a1))
  else
   bif decide ((a0.length : Int) ≥ 256) then
    some (181, a0)
   else
    (roomL 24 (a0 ++ ([a1] : List api_Route)).length).bind fun u14 =>
    some (0, (a0 ++ ([a1] : List api_Route)))
theorem gangwayref18_Table_Put_1_calls (k : Nat) (b_0 : Nat) (A00 : SkL Unit) (a0 : (List api_Route)) (a1 : api_Route) (r : Int × (List api_Route)) (h : gangwayref18_Table_Put_1.f k a0 a1 = some r) : DoesG Tryz.prog 112 #[.pointer (some ⟨b_0, 0, none⟩), api_Route.v a1] [(b_0, .cells #[slcV A00 a0.length] 230 (0, 0))] [OwnR 3 162 (pl api_Route.enc) A00 a0] ([GIn noK A00 a0] ++ Glob) (fun x : (SkL Unit) => .int .i64 r.1) (fun x => [(b_0, .cells #[slcV x r.2.length] 230 (0, 0))]) (fun x => [OwnR 3 162 (pl api_Route.enc) x r.2]) (fun x => [GIn noK x r.2] ++ ([GIn noK A00 a0] ++ Glob)) := by
 intro w Z hS
 refine callsS (args := [.pointer (some ⟨b_0, 0, none⟩), api_Route.v a1]) (L := [(0, .pointer (some ⟨b_0, 0, none⟩)), (1, api_Route.v a1)]) (N := 39) Tryz.func112 hS ?_
 have hM := h
 clear h hS
 unfold gangwayref18_Table_Put_1.f at hM
 refine WP.seq ?_
 refine WP.rh [] (fun b1 => [(3, .pointer (some ⟨b1, 0, none⟩)), (4, .int .i64 0)]) (fun b1 => []) (fun b1 => [(b1, api_Route.o a1)]) (fun b1 => ?_)
 refine WP.seq (WP.seq (WP.region (WL.rn 2 [1, 1] [(7, api_Net.v a1.To)] ?_)))
 obtain ⟨r2, h3, hM⟩ := bind_some hM
 refine WL.callP [] [] (gangwayref02_Net_calls k a1.To _ h3) (fun _ h => List.mem_append_right _ h) (by kernel_rfl) (by kernel_rfl) rfl ?_
 refine WL.rn 1 [] [(9, .bool (!r2))] ?_
 refine WP.done ?_
 refine WP.cond (!r2) rfl rfl (fun c4 => ?_) (fun c4 => ?_)
 ·replace hM := cond_t hM c4
  refine WP.seq (WP.rn [] [(4, .int .i64 180)] ?_)
  obtain rfl := Option.some.inj hM
  exact WP.ret [] [] (.int .i64 180) (by kernel_rfl) (fun w' hw => ⟨A00, rfl, (hw.pick [0] (by kernel_rfl)).less (sub_ret [0] [0] (by kernel_rfl) (by kernel_rfl))⟩)
 ·replace hM := cond_f hM c4
  refine WP.skip (WP.seq (WP.region ?_))
  refine WL.rn 3 [1, 1] [(10, .pointer (some ⟨b_0, 0, none⟩)), (12, api_Net.v a1.To)] ?_
  obtain ⟨r5, h6, hM⟩ := bind_some hM
  refine WL.callG (Gr := []) (F0 := [GIn noK A00 a0]) [] [] [true, false] (fun _ => _) [0] (by kernel_rfl) (gangwayref18_Table_place_1_calls k b_0 A00 a0 a1.To _ h6) rfl rfl (by kernel_rfl) (by kernel_rfl) (by kernel_rfl) (fun _ => rfl) (fun A7 => ?_)
  refine WL.rn 1 [] [(5, .int .i64 r5)] ?_
  refine WP.done (WP.seq (WP.seq (WP.rn [] [(15, .bool (decide (r5 ≥ 0)))] ?_)))
  refine WP.cond (decide (r5 ≥ 0)) rfl rfl (fun c8 => ?_) (fun c8 => ?_)
  ·replace hM := cond_t hM c8
   refine WP.seq ?_
   obtain ⟨t9, h10, hM⟩ := bind_some hM
   refine WP.rs [0, 3, 4, 5] ?_
   refine WP.graphF (X := Unit) 8 4 [⟨0, 8, fun _ => [(b_0, .cells #[slcV A00 a0.length] 230 (0, 0))], fun _ => []⟩, ⟨0, 8, fun _ => [(b1, api_Route.o a1)], fun _ => []⟩, ⟨0, 7, fun _ => [], fun _ => [OwnR 3 162 (pl api_Route.enc) A00 a0]⟩, ⟨8, 8, fun _ => [], fun _ => [OwnR 3 162 (pl api_Route.enc) A00 (List.set a0 (Int.toNat r5) a1)]⟩] [⟨[], [], [], [], [], fun _ => .pointer (some ⟨b_0, 0, none⟩), fun _ => []⟩, ⟨[0], [], [], [], [], fun _ => .pointer (some ⟨b_0, 0, none⟩), fun _ => []⟩, ⟨[0, 1], [], [], [], [], fun _ => .pointer (some ⟨b_0, 0, none⟩), fun _ => []⟩, ⟨[0, 1, 2], [0], [0], [], [], fun _ => slcV A00 a0.length, fun _ => []⟩, ⟨[], [], [], [], [], fun _ => .int .i64 r5, fun _ => []⟩, ⟨[], [1], [1], [], [], fun _ => api_Route.v a1, fun _ => []⟩, ⟨[0, 1, 2, 3, 4, 5], [2], [2], [], [], fun _ => ptrV A00 (Int.toNat r5 * 3), fun _ => []⟩, ⟨[0, 1, 2, 3, 4, 5, 6], [2], [3], [], [], fun _ => .tuple #[], fun _ => [GIn noK A00 (List.set a0 (Int.toNat r5) a1)]⟩] (fun ξ => []) (fun ξ => [(b_0, .cells #[slcV A00 a0.length] 230 (0, 0)), (b1, api_Route.o a1)]) (fun ξ => [OwnR 3 162 (pl api_Route.enc) A00 (List.set a0 (Int.toNat r5) a1)]) (fun ξ => [GIn noK A00 (List.set a0 (Int.toNat r5) a1)]) (AllN.cons ?_ (AllN.cons ?_ (AllN.cons ?_ (AllN.cons ?_ (AllN.cons ?_ (AllN.cons ?_ (AllN.cons ?_ (AllN.cons ?_ AllN.nil)))))))) (AllN.cons (VAgr.c rfl) (AllN.cons (VAgr.c rfl) (AllN.cons (VAgr.c rfl) (AllN.cons (VAgr.c rfl) (AllN.cons (VAgr.c rfl) (AllN.cons (VAgr.c rfl) (AllN.cons (VAgr.c rfl) (AllN.cons (VAgr.c rfl) AllN.nil)))))))) (AllN.cons (RAgr.c rfl) (AllN.cons (RAgr.c rfl) (AllN.cons (RAgr.c rfl) (AllN.cons (RAgr.c rfl) AllN.nil)))) (fun ξ => ?_)
   ·
    intro o t ho ht ξ Gr Γr Lr Q hk
    cases ho; cases ht
    refine WL.rn 1 [] [(16, .pointer (some ⟨b_0, 0, none⟩))] ?_
    exact WL.fin (hk default)
   ·
    intro o t ho ht ξ Gr Γr Lr Q hk
    cases ho; cases ht
    refine WL.rn 1 [] [(17, .pointer (some ⟨b_0, 0, none⟩))] ?_
    exact WL.fin (hk default)
   ·
    intro o t ho ht ξ Gr Γr Lr Q hk
    cases ho; cases ht
    refine WL.rn 1 [] [(18, .pointer (some ⟨b_0, 0, none⟩))] ?_
    exact WL.fin (hk default)
   ·
    intro o t ho ht ξ Gr Γr Lr Q hk
    cases ho; cases ht
    refine WL.rn 1 [0] [(19, slcV A00 a0.length)] ?_
    exact WL.fin (hk default)
   ·
    intro o t ho ht ξ Gr Γr Lr Q hk
    cases ho; cases ht
    refine WL.rn 1 [] [(20, .int .i64 r5)] ?_
    exact WL.fin (hk default)
   ·
    intro o t ho ht ξ Gr Γr Lr Q hk
    cases ho; cases ht
    refine WL.rn 1 [0, 0, 0] [(21, api_Route.v a1)] ?_
    exact WL.fin (hk default)
   ·
    intro o t ho ht ξ Gr Γr Lr Q hk
    cases ho; cases ht
    refine WL.valG (m := 3) (e := 162) (f := (pl api_Route.enc)) (K := noK) (A := A00) (xs := a0) 0 (by kernel_rfl) (fun _ _ => rfl) (fact_at 0 rfl) (fun w hR => run_indexRowF (A := A00) (xs := a0) (i := r5) (k := .i64) (e := 162) (m := 3) (by kernel_rfl) (by kernel_rfl) h10 (by kernel_rfl) (by kernel_rfl) hR) (by kernel_rfl) (by kernel_rfl) rfl ?_
    exact WL.fin (hk default)
   ·
    intro o t ho ht ξ Gr Γr Lr Q hk
    cases ho; cases ht
    refine WL.growSet (G' := Gr) (m := 3) (e := 162) (n := 3) (f := (pl api_Route.enc)) (A := A00) (xs := a0) (i := r5) (u := t9) (r := a1) (v := api_Route.v a1) 0 (fun _ => by kernel_rfl) rfl (by kernel_rfl) (by kernel_rfl) (by kernel_rfl) (by kernel_rfl) (by kernel_rfl) h10 (by kernel_rfl) (by kernel_rfl) (fun _ _ => rfl) (fun _ _ => rfl) (fact_at 0 rfl) (by kernel_rfl) ?_
    refine WL.less (Φ' := (([GIn noK A00 (List.set a0 (Int.toNat r5) a1), GIn noK A00 a0] ++ Γr) ++ Glob)) (fun _ h => h) ?_
    exact WL.fin (hk default)
   refine WP.less (Φ' := ([GIn noK A00 (List.set a0 (Int.toNat r5) a1), GIn noK A00 a0] ++ Glob)) (fun _ h => h) ?_
   refine WP.retell (L1 := [(0, .pointer (some ⟨b_0, 0, none⟩)), (3, .pointer (some ⟨b1, 0, none⟩)), (4, .int .i64 0), (5, .int .i64 r5)]) (L' := [(0, .pointer (some ⟨b_0, 0, none⟩)), (3, .pointer (some ⟨b1, 0, none⟩)), (4, .int .i64 0), (5, .int .i64 r5)]) (H' := [(b_0, .cells #[slcV A00 (List.set a0 (Int.toNat r5) a1).length] 230 (0, 0)), (b1, api_Route.o a1)]) [0, 3, 4, 5] (by kernel_rfl) (by first | rfl | simp only [List.length_set, slcV_upd]) (by first | rfl | simp only [List.length_set, slcV_upd]) ?_
   refine WP.seq (WP.rn [] [(4, .int .i64 0)] ?_)
   obtain rfl := Option.some.inj hM
   exact WP.ret [] [] (.int .i64 0) (by kernel_rfl) (fun w' hw => ⟨A00, rfl, (hw.pick [0] (by kernel_rfl)).less (sub_ret [0] [1] (by kernel_rfl) (by kernel_rfl))⟩)
  ·replace hM := cond_f hM c8
   refine WP.skip (WP.seq (WP.seq (WP.rn [0] [(28, .bool (decide ((a0.length : Int) ≥ 256)))] ?_)))
   refine WP.cond (decide ((a0.length : Int) ≥ 256)) rfl rfl (fun c11 => ?_) (fun c11 => ?_)
   ·replace hM := cond_t hM c11
    refine WP.seq (WP.rn [] [(4, .int .i64 181)] ?_)
    obtain rfl := Option.some.inj hM
    exact WP.ret [] [] (.int .i64 181) (by kernel_rfl) (fun w' hw => ⟨A00, rfl, (hw.pick [0] (by kernel_rfl)).less (sub_ret [0] [0] (by kernel_rfl) (by kernel_rfl))⟩)
   ·replace hM := cond_f hM c11
    refine WP.skip (WP.seq ?_)
    obtain ⟨u14, h13, hM⟩ := bind_some hM
    refine WP.rs [0, 3, 4] ?_
    refine WP.graphF (X := (Nat × (SkL Unit))) 11 6 [⟨0, 10, fun _ => [(b_0, .cells #[slcV A00 a0.length] 230 (0, 0))], fun _ => []⟩, ⟨0, 11, fun _ => [(b1, api_Route.o a1)], fun _ => []⟩, ⟨0, 7, fun _ => [], fun _ => [OwnR 3 162 (pl api_Route.enc) A00 a0]⟩, ⟨7, 7, fun ξ => [((ξ 6).1, api_Route.o a1)], fun ξ => []⟩, ⟨8, 11, fun ξ => [], fun ξ => [OwnR 3 162 (pl api_Route.enc) (ξ 7).2 (a0 ++ ([a1] : List api_Route))]⟩, ⟨11, 11, fun ξ => [(b_0, .cells #[slcV (ξ 7).2 (a0 ++ ([a1] : List api_Route)).length] 230 (0, 0))], fun ξ => []⟩] [⟨[], [], [], [], [], fun _ => .pointer (some ⟨b_0, 0, none⟩), fun _ => []⟩, ⟨[], [], [], [], [], fun _ => .pointer (some ⟨b_0, 0, none⟩), fun _ => []⟩, ⟨[1], [], [], [], [], fun _ => .pointer (some ⟨b_0, 0, none⟩), fun _ => []⟩, ⟨[1, 2], [], [], [], [], fun _ => .pointer (some ⟨b_0, 0, none⟩), fun _ => []⟩, ⟨[1, 2, 3], [0], [0], [], [], fun _ => slcV A00 a0.length, fun _ => []⟩, ⟨[], [1], [1], [], [], fun _ => api_Route.v a1, fun _ => []⟩, ⟨[5], [], [3], [], [], fun ξ => .slice (some ⟨(ξ 6).1, 0, none⟩) 1 1, fun ξ => []⟩, ⟨[1, 2, 3, 4, 5, 6], [3, 2], [4], [6], [], fun ξ => slcV (ξ 7).2 (a0 ++ ([a1] : List api_Route)).length, fun ξ => [GIn noK (ξ 7).2 (a0 ++ ([a1] : List api_Route)), Row 3 (pl api_Route.enc) noK (SkL.at (ξ 6).1 1 (fun _ => ())) ([a1] : List api_Route)]⟩, ⟨[0, 1, 2, 3, 4, 5, 6, 7], [], [], [], [], fun _ => .pointer (some ⟨b_0, 0, none⟩), fun _ => []⟩, ⟨[0, 1, 2, 3, 4, 5, 6, 7, 8], [], [], [], [], fun _ => .pointer (some ⟨b_0, 0, none⟩), fun _ => []⟩, ⟨[0, 1, 2, 3, 4, 5, 6, 7, 8, 9], [0], [5], [7], [], fun _ => .tuple #[], fun _ => []⟩] (fun ξ => []) (fun ξ => [(b1, api_Route.o a1), (b_0, .cells #[slcV (ξ 7).2 (a0 ++ ([a1] : List api_Route)).length] 230 (0, 0))]) (fun ξ => [OwnR 3 162 (pl api_Route.enc) (ξ 7).2 (a0 ++ ([a1] : List api_Route))]) (fun ξ => [GIn noK (ξ 7).2 (a0 ++ ([a1] : List api_Route)), Row 3 (pl api_Route.enc) noK (SkL.at (ξ 6).1 1 (fun _ => ())) ([a1] : List api_Route)]) (AllN.cons ?_ (AllN.cons ?_ (AllN.cons ?_ (AllN.cons ?_ (AllN.cons ?_ (AllN.cons ?_ (AllN.cons ?_ (AllN.cons ?_ (AllN.cons ?_ (AllN.cons ?_ (AllN.cons ?_ AllN.nil))))))))))) (AllN.cons (VAgr.c rfl) (AllN.cons (VAgr.c rfl) (AllN.cons (VAgr.c rfl) (AllN.cons (VAgr.c rfl) (AllN.cons (VAgr.c rfl) (AllN.cons (VAgr.c rfl) (AllN.cons (fun t ht ξ ξ' h => by cases ht; have e6 : ξ 6 = ξ' 6 := h 6 (memN_iff.1 rfl); exact ⟨by first | rfl | simp only [e6], by first | rfl | simp only [e6]⟩) (AllN.cons (fun t ht ξ ξ' h => by cases ht; have e6 : ξ 6 = ξ' 6 := h 6 (memN_iff.1 rfl); have e7 : ξ 7 = ξ' 7 := h 7 (memN_iff.1 rfl); exact ⟨by first | rfl | simp only [e6, e7], by first | rfl | simp only [e6, e7]⟩) (AllN.cons (VAgr.c rfl) (AllN.cons (VAgr.c rfl) (AllN.cons (VAgr.c rfl) AllN.nil))))))))))) (AllN.cons (RAgr.c rfl) (AllN.cons (RAgr.c rfl) (AllN.cons (RAgr.c rfl) (AllN.cons (fun r hr ξ ξ' h => by cases hr; have e6 : ξ 6 = ξ' 6 := h 6 (memN_iff.1 rfl); exact ⟨by first | rfl | simp only [e6], by first | rfl | simp only [e6]⟩) (AllN.cons (fun r hr ξ ξ' h => by cases hr; have e7 : ξ 7 = ξ' 7 := h 7 (memN_iff.1 rfl); exact ⟨by first | rfl | simp only [e7], by first | rfl | simp only [e7]⟩) (AllN.cons (fun r hr ξ ξ' h => by cases hr; have e7 : ξ 7 = ξ' 7 := h 7 (memN_iff.1 rfl); exact ⟨by first | rfl | simp only [e7], by first | rfl | simp only [e7]⟩) AllN.nil)))))) (fun ξ => ?_)
    ·
     intro o t ho ht ξ Gr Γr Lr Q hk
     cases ho; cases ht
     refine WL.rn 1 [] [(29, .pointer (some ⟨b_0, 0, none⟩))] ?_
     exact WL.fin (hk default)
    ·
     intro o t ho ht ξ Gr Γr Lr Q hk
     cases ho; cases ht
     refine WL.rn 1 [] [(30, .pointer (some ⟨b_0, 0, none⟩))] ?_
     exact WL.fin (hk default)
    ·
     intro o t ho ht ξ Gr Γr Lr Q hk
     cases ho; cases ht
     refine WL.rn 1 [] [(31, .pointer (some ⟨b_0, 0, none⟩))] ?_
     exact WL.fin (hk default)
    ·
     intro o t ho ht ξ Gr Γr Lr Q hk
     cases ho; cases ht
     refine WL.rn 1 [] [(32, .pointer (some ⟨b_0, 0, none⟩))] ?_
     exact WL.fin (hk default)
    ·
     intro o t ho ht ξ Gr Γr Lr Q hk
     cases ho; cases ht
     refine WL.rn 1 [0] [(33, slcV A00 a0.length)] ?_
     exact WL.fin (hk default)
    ·
     intro o t ho ht ξ Gr Γr Lr Q hk
     cases ho; cases ht
     refine WL.rn 1 [0, 0, 0] [(34, api_Route.v a1)] ?_
     exact WL.fin (hk default)
    ·
     intro o t ho ht ξ Gr Γr Lr Q hk
     cases ho; cases ht
     refine WL.rh 1 [] (fun b12 => [(35, .slice (some ⟨b12, 0, none⟩) 1 1)]) (fun b12 => []) (fun b12 => [(b12, api_Route.o a1)]) (fun b12 => ?_)
     exact WL.fin (hk (b12, default))
    ·
     intro o t ho ht ξ Gr Γr Lr Q hk
     cases ho; cases ht
     refine WL.ice (H' := []) (Row 3 (pl api_Route.enc) noK (SkL.at (ξ 6).1 1 (fun _ => ())) ([a1] : List api_Route)) 0 (b := (ξ 6).1) (ob := api_Route.o a1) (by kernel_rfl) [] [] (by kernel_rfl) (fun w hb hψ => row_of_block hb (fun _ _ => rfl) ⟨[], by kernel_rfl⟩ (Nat.le_of_ble_eq_true rfl) (InK.no _ _)) (by kernel_rfl) ?_
     refine WL.growApp (G' := Gr) (A := A00) (B := (SkL.at (ξ 6).1 1 (fun _ => ()))) (xs := a0) (ys := ([a1] : List api_Route)) (m := 3) (by_ := 24) (e := 162) (z := .agg #[.int .u32 0, .int .i64 0, .int .u32 0]) (f := (pl api_Route.enc)) (K := noK) (d := 36) 0 rfl rfl (by kernel_rfl) (by kernel_rfl) (by kernel_rfl) (by kernel_rfl) (by kernel_rfl) (fun _ _ => rfl) (fun _ _ => rfl) (by kernel_rfl) (by kernel_rfl) (by kernel_rfl) (by kernel_rfl) (by kernel_rfl) (fact_at 1 rfl) (fact_at 0 rfl) h13 (by kernel_rfl) (fun A15 => ?_)
     refine WL.less (Φ' := (([GIn noK A15 (a0 ++ ([a1] : List api_Route)), Row 3 (pl api_Route.enc) noK (SkL.at (ξ 6).1 1 (fun _ => ())) ([a1] : List api_Route), GIn noK A00 a0] ++ Γr) ++ Glob)) (fun _ h => h) ?_
     exact WL.fin (hk (default, A15))
    ·
     intro o t ho ht ξ Gr Γr Lr Q hk
     cases ho; cases ht
     refine WL.rn 1 [] [(37, .pointer (some ⟨b_0, 0, none⟩))] ?_
     exact WL.fin (hk default)
    ·
     intro o t ho ht ξ Gr Γr Lr Q hk
     cases ho; cases ht
     refine WL.rn 1 [] [(38, .pointer (some ⟨b_0, 0, none⟩))] ?_
     exact WL.fin (hk default)
    ·
     intro o t ho ht ξ Gr Γr Lr Q hk
     cases ho; cases ht
     refine WL.rh 1 [0] (fun _ => []) (fun _ => [(0, 0, [slcV (ξ 7).2 (a0 ++ ([a1] : List api_Route)).length])]) (fun _ => []) (fun _ => ?_)
     exact WL.fin (hk default)
    generalize (ξ 6).1 = b12
    generalize (ξ 7).2 = A15
    refine WP.less (Φ' := ([GIn noK A15 (a0 ++ ([a1] : List api_Route)), Row 3 (pl api_Route.enc) noK (SkL.at b12 1 (fun _ => ())) ([a1] : List api_Route), GIn noK A00 a0] ++ Glob)) (fun _ h => h) ?_
    refine WP.kp [false, true] ?_
    refine WP.seq (WP.rn [] [(4, .int .i64 0)] ?_)
    obtain rfl := Option.some.inj hM
    exact WP.ret [] [] (.int .i64 0) (by kernel_rfl) (fun w' hw => ⟨A15, rfl, (hw.pick [0] (by kernel_rfl)).less (sub_ret [0] [2] (by kernel_rfl) (by kernel_rfl))⟩)
def gangwayref24_ways.l1 (a0 : (List api_Route)) (k : Nat) : Nat → Bool → Int → (List api_Route) → Option (Bool)
 | 0, _, _, _ => none
 | n + 1, x12, x13, x14 =>
  bif decide (x13 < (a0.length : Int)) then
   (getL a0.length a0 x13).bind fun t17 =>
   (gangwayref18_Table_Put_1.f k x14 t17).bind fun (r19, r20) =>
   bif (r19 != 0) then
    some false
   else
    gangwayref24_ways.l1 a0 k n x12 (i64 (x13 + 1)) r20
  else
   some true
def gangwayref24_ways.f (k : Nat) (a0 : (List api_Route)) : Option (Bool) :=
 gangwayref24_ways.l1 a0 k k false 0 ([] : List api_Route)
theorem gangwayref24_ways_calls (k : Nat) (A00 : SkL Unit) (a0 : (List api_Route)) (r : Bool) (h : gangwayref24_ways.f k a0 = some r) : Does Tryz.prog 65 #[slcV A00 a0.length] [] ([Row 3 (pl api_Route.enc) noK A00 a0] ++ Glob) (fun x : (Option Addr) => .tuple #[.pointer x, .bool r]) (fun x => []) (fun _ => []) (fun x => [] ++ ([Row 3 (pl api_Route.enc) noK A00 a0] ++ Glob)) := by
 intro w Z hS
 refine callsS (args := [slcV A00 a0.length]) (L := [(0, slcV A00 a0.length)]) (N := 25) Tryz.func65 hS ?_
 have hM := h
 clear h hS
 unfold gangwayref24_ways.f at hM
 refine WP.seq (WP.rn [] [(2, .pointer none), (3, .bool false)] ?_)
 refine WP.seq ?_
 refine WP.rh [] (fun b1 => [(4, .pointer (some ⟨b1, 0, none⟩))]) (fun b1 => []) (fun b1 => [(b1, .cells #[.slice none 0 0] 230 (0, 0))]) (fun b1 => ?_)
 refine WP.seq (WP.seq (WP.rn [] [(5, .int .i64 0)] ?_))
 refine WP.block ?_
 refine WP.growNil 3 162 (pl api_Route.enc) noK (fun _ => ()) ?_
 skip
 refine WP.sub [0, 3, 4, 5] (L' := [(0, slcV A00 a0.length), (3, .bool false), (4, .pointer (some ⟨b1, 0, none⟩)), (5, .int .i64 0)]) (by kernel_rfl) ?_
 refine WP.lessF [0, 0, 1] (F' := [GIn noK (SkL.nil (fun _ => ())) ([] : List api_Route), GIn noK (SkL.nil (fun _ => ())) ([] : List api_Route), Row 3 (pl api_Route.enc) noK A00 a0]) (by kernel_rfl) ?_
 refine WP.loop (σ := Bool × Int × (List api_Route) × SkL Unit) (fun n st => gangwayref24_ways.l1 a0 k n st.1 st.2.1 st.2.2.1) r (fun st => [(0, slcV A00 a0.length), (3, .bool st.1), (4, .pointer (some ⟨b1, 0, none⟩)), (5, .int .i64 st.2.1)]) (fun st => Sat w Z [(b1, .cells #[slcV st.2.2.2 st.2.2.1.length] 230 (0, 0))] [OwnR 3 162 (pl api_Route.enc) st.2.2.2 st.2.2.1] ([GIn noK st.2.2.2 st.2.2.1, GIn noK (SkL.nil (fun _ => ())) ([] : List api_Route), Row 3 (pl api_Route.enc) noK A00 a0] ++ Glob)) (st := (false, 0, ([] : List api_Route), (SkL.nil (fun _ => ())))) (fun n st hM => ?_) hM
 rcases n with _ | n
 ·exact nomatch (show (none : Option _) = some r from hM)
 obtain ⟨x12, x13, x14, A15⟩ := st
 replace hM : gangwayref24_ways.l1 a0 k (n + 1) x12 x13 x14 = some r := hM
 rw [gangwayref24_ways.l1] at hM
 try dsimp only
 refine WP.seq (WP.seq (WP.rn [] [(9, .int .i64 x13), (10, slcV A00 a0.length), (11, .int .i64 (a0.length : Int)), (12, .bool (decide (x13 < (a0.length : Int))))] ?_))
 refine WP.cond (decide (x13 < (a0.length : Int))) rfl rfl (fun c16 => ?_) (fun c16 => ?_)
 ·replace hM := cond_t hM c16
  refine WP.skip (WP.seq (WP.block (WP.seq (WP.region ?_))))
  refine WL.rn 3 [] [(15, .pointer (some ⟨b1, 0, none⟩)), (16, slcV A00 a0.length), (17, .int .i64 x13)] ?_
  obtain ⟨t17, h18, hM⟩ := bind_some hM
  refine WL.valF (φ := Row 3 (pl api_Route.enc) noK A00 a0) (fact_at 2 rfl) (fun w hR => run_indexRowF (A := A00) (xs := a0) (i := x13) (k := .i64) (e := 162) (m := 3) (by kernel_rfl) (by kernel_rfl) h18 (by kernel_rfl) (by kernel_rfl) hR) (by kernel_rfl) (by kernel_rfl) rfl ?_
  refine WL.valF (φ := Row 3 (pl api_Route.enc) noK A00 a0) (fact_at 2 rfl) (fun w hR => run_loadRowFA (A := A00) (xs := a0) (i := x13) (j := 0) (n := 3) (vs := [.int .u32 t17.To.Ip, .int .i64 t17.To.Bits, .int .u32 t17.Via]) h18 (fun _ => by kernel_rfl) (by kernel_rfl) (by kernel_rfl) (by kernel_rfl) rfl hR) (by kernel_rfl) (by kernel_rfl) rfl ?_
  obtain ⟨⟨r19, r20⟩, h21, hM⟩ := bind_some hM
  dsimp only at hM
  refine WL.callG (Gr := []) (F0 := [GIn noK A15 x14]) [] [] [true] (fun _ => _) [0] (by kernel_rfl) (gangwayref18_Table_Put_1_calls k b1 A15 x14 t17 _ h21) rfl rfl (by kernel_rfl) (by kernel_rfl) (by kernel_rfl) (fun _ => rfl) (fun A22 => ?_)
  refine WL.rn 1 [] [(6, .int .i64 r19)] ?_
  refine WP.done (WP.seq (WP.rn [] [(21, .int .i64 r19), (22, .bool (r19 != 0))] ?_))
  refine WP.cond (r19 != 0) rfl rfl (fun c23 => ?_) (fun c23 => ?_)
  ·replace hM := cond_t hM c23
   refine WP.seq ?_
   refine WP.rn [] [(2, .pointer (some ⟨b1, 0, none⟩)), (3, .bool false), (23, .pointer (some ⟨b1, 0, none⟩))] ?_
   refine WP.pickG (G' := []) [] [0] 1 rfl (by decide) (by kernel_rfl) ?_
   obtain rfl := Option.some.inj hM
   exact WP.ret [] [] (.tuple #[.pointer (some ⟨b1, 0, none⟩), .bool false]) (by kernel_rfl) (fun w' hw => ⟨(some ⟨b1, 0, none⟩), rfl, (hw.pick [] (by kernel_rfl)).less (sub_ret [] [3] (by kernel_rfl) (by kernel_rfl))⟩)
  ·replace hM := cond_f hM c23
   refine WP.skip (WP.leave (WP.rn [] [(5, .int .i64 (i64 (x13 + 1))), (13, .int .i64 x13), (14, .int .i64 (i64 (x13 + 1)))] ?_))
   exact WP.again' [0, 3, 4, 5] (x12, i64 (x13 + 1), r20, A22) hM (by kernel_rfl) (fun _ h => ((h.pick [0] (by kernel_rfl)).lessF [0, 2, 3] (by kernel_rfl)).pickG [0] [] 1 rfl (by decide) (by kernel_rfl))
 ·replace hM := cond_f hM c16
  refine WP.exit rfl (WP.seq ?_)
  refine WP.rn [] [(2, .pointer (some ⟨b1, 0, none⟩)), (3, .bool true)] ?_
  refine WP.pickG (G' := []) [] [0] 1 rfl (by decide) (by kernel_rfl) ?_
  obtain rfl := Option.some.inj hM
  exact WP.ret [] [] (.tuple #[.pointer (some ⟨b1, 0, none⟩), .bool true]) (by kernel_rfl) (fun w' hw => ⟨(some ⟨b1, 0, none⟩), rfl, (hw.pick [] (by kernel_rfl)).less (sub_ret [] [2] (by kernel_rfl) (by kernel_rfl))⟩)
def gangwayref21_often.k1 (x2 : Int) (rec_l2 : Int → Int → Option (Int)) (x7 : Int) : Option (Int) :=
 rec_l2 x7 (i64 (x2 + 1))
def gangwayref21_often.l2 (a0 : (List Int)) (a1 : Int) : Nat → Int → Int → Option (Int)
 | 0, _, _ => none
 | n + 1, x1, x2 =>
  bif decide (x2 < (a0.length : Int)) then
   (getL a0.length a0 x2).bind fun t4 =>
   bif (t4 == a1) then
    gangwayref21_often.k1 x2 (gangwayref21_often.l2 a0 a1 n) (i64 (x1 + 1))
   else
    gangwayref21_often.k1 x2 (gangwayref21_often.l2 a0 a1 n) x1
  else
   some x1
def gangwayref21_often.f (k : Nat) (a0 : (List Int)) (a1 : Int) : Option (Int) :=
 gangwayref21_often.l2 a0 a1 k 0 0
theorem gangwayref21_often_calls (k : Nat) (A00 : SkL Unit) (a0 : (List Int)) (a1 : Int) (r : Int) (h : gangwayref21_often.f k a0 a1 = some r) : Pure Tryz.prog ([Row 1 (pl (encI .u32)) noK A00 a0] ++ Glob) 113 #[slcV A00 a0.length, .int .u32 a1] (.int .i64 r) := by
 intro w Z hS
 refine callsS (args := [slcV A00 a0.length, .int .u32 a1]) (L := [(0, slcV A00 a0.length), (1, .int .u32 a1)]) (N := 22) Tryz.func113 hS ?_
 have hM := h
 clear h hS
 unfold gangwayref21_often.f at hM
 refine WP.seq (WP.rn [] [(4, .int .i64 0)] ?_)
 refine WP.seq (WP.rn [] [(5, .int .i64 0)] ?_)
 refine WP.seq (WP.seq (WP.rn [] [(6, .int .i64 0)] ?_))
 refine WP.block (WP.sub [0, 1, 4, 5, 6] (L' := [(0, slcV A00 a0.length), (1, .int .u32 a1), (4, .int .i64 0), (5, .int .i64 0), (6, .int .i64 0)]) (by kernel_rfl) ?_)
 refine WP.lessF [0] (F' := [Row 1 (pl (encI .u32)) noK A00 a0]) (by kernel_rfl) ?_
 refine WP.loop (σ := Int × Int) (fun n st => gangwayref21_often.l2 a0 a1 n st.1 st.2) r (fun st => [(0, slcV A00 a0.length), (1, .int .u32 a1), (4, .int .i64 0), (5, .int .i64 st.1), (6, .int .i64 st.2)]) (fun st => Sat w Z [] [] ([Row 1 (pl (encI .u32)) noK A00 a0] ++ Glob)) (st := (0, 0)) (fun n st hM => ?_) hM
 rcases n with _ | n
 ·exact nomatch (show (none : Option _) = some r from hM)
 obtain ⟨x1, x2⟩ := st
 replace hM : gangwayref21_often.l2 a0 a1 (n + 1) x1 x2 = some r := hM
 rw [gangwayref21_often.l2] at hM
 try dsimp only
 refine WP.seq (WP.seq (WP.rn [] [(7, .int .i64 x2), (8, slcV A00 a0.length), (9, .int .i64 (a0.length : Int)), (10, .bool (decide (x2 < (a0.length : Int))))] ?_))
 refine WP.cond (decide (x2 < (a0.length : Int))) rfl rfl (fun c3 => ?_) (fun c3 => ?_)
 ·replace hM := cond_t hM c3
  refine WP.skip (WP.seq ?_)
  refine WP.blockJoin (σ := Int) (fun st => gangwayref21_often.k1 x2 (gangwayref21_often.l2 a0 a1 n) st = some r) (fun st => [(0, slcV A00 a0.length), (1, .int .u32 a1), (4, .int .i64 0), (5, .int .i64 st), (6, .int .i64 x2), (7, .int .i64 x2), (8, slcV A00 a0.length), (9, .int .i64 (a0.length : Int)), (10, .bool (decide (x2 < (a0.length : Int)))), (13, slcV A00 a0.length), (14, .int .i64 x2), (15, ptrV A00 (Int.toNat x2 * 1)), (17, .int .u32 a1)]) (fun st => Sat w Z [] [] ([Row 1 (pl (encI .u32)) noK A00 a0] ++ Glob)) (fun st hM => ?_) (fun K1 => ?_)
  ·
   obtain ⟨x7, rfl⟩ : ∃ y, y = st := ⟨st, rfl⟩
   replace hM : gangwayref21_often.k1 x2 (gangwayref21_often.l2 a0 a1 n) x7 = some r := hM
   unfold gangwayref21_often.k1 at hM
   try dsimp only
   refine WP.rn [] [(6, .int .i64 (i64 (x2 + 1))), (11, .int .i64 x2), (12, .int .i64 (i64 (x2 + 1)))] ?_
   exact WP.again' [0, 1, 4, 5, 6] (x7, i64 (x2 + 1)) hM (by kernel_rfl) (fun _ h => (h.pick [] (by kernel_rfl)).lessF [0] (by kernel_rfl))
  ·
   refine WP.seq (WP.region (WL.rn 2 [] [(13, slcV A00 a0.length), (14, .int .i64 x2)] ?_))
   obtain ⟨t4, h5, hM⟩ := bind_some hM
   refine WL.valF (φ := Row 1 (pl (encI .u32)) noK A00 a0) (fact_at 0 rfl) (fun w hR => run_indexRowF (A := A00) (xs := a0) (i := x2) (k := .i64) (e := 49) (m := 1) (by kernel_rfl) (by kernel_rfl) h5 (by kernel_rfl) (by kernel_rfl) hR) (by kernel_rfl) (by kernel_rfl) rfl ?_
   refine WL.valF (φ := Row 1 (pl (encI .u32)) noK A00 a0) (fact_at 0 rfl) (fun w hR => run_loadRowF (A := A00) (xs := a0) (i := x2) (j := 0) (v := .int .u32 t4) h5 (fun _ => by kernel_rfl) (by kernel_rfl) (by kernel_rfl) hR) (by kernel_rfl) (by kernel_rfl) rfl ?_
   refine WL.rn 2 [] [(17, .int .u32 a1), (18, .bool (t4 == a1))] ?_
   refine WP.done ?_
   refine WP.cond (t4 == a1) rfl rfl (fun c6 => ?_) (fun c6 => ?_)
   ·replace hM := cond_t hM c6
    refine WP.rn [] [(5, .int .i64 (i64 (x1 + 1))), (19, .int .i64 x1), (20, .int .i64 (i64 (x1 + 1)))] ?_
    refine WP.leave ?_
    exact WP.sub [0, 1, 4, 5, 6, 7, 8, 9, 10, 13, 14, 15, 17] (by kernel_rfl) (WP.pick [] (by kernel_rfl) (by kernel_rfl) (WP.lessF [0] (by kernel_rfl) (K1 (i64 (x1 + 1)) hM)))
   ·replace hM := cond_f hM c6
    refine WP.skip (WP.leave ?_)
    exact WP.sub [0, 1, 4, 5, 6, 7, 8, 9, 10, 13, 14, 15, 17] (by kernel_rfl) (WP.pick [] (by kernel_rfl) (by kernel_rfl) (WP.lessF [0] (by kernel_rfl) (K1 x1 hM)))
 ·replace hM := cond_f hM c3
  refine WP.exit rfl (WP.seq (WP.rn [] [(4, .int .i64 x1)] ?_))
  obtain rfl := Option.some.inj hM
  exact WP.retF [] [] [0]
def gangwayref21_Check.k2 (x15 : Int) (rec_l4 : Bool → Int → Option (Int)) (x25 : Bool) (x26 : Bool) : Option (Int) :=
 rec_l4 x26 (i64 (x15 + 1))
def gangwayref21_Check.k3 (a1 : (List api_Seg)) (x15 : Int) (t11 : api_Seg) (rec_l4 : Bool → Int → Option (Int)) (x20 : Bool) (x21 : Bool) : Option (Int) :=
 bif x21 then
  (getL a1.length a1 x15).bind fun t23 =>
  gangwayref21_Check.k2 x15 rec_l4 true (t23.Vni != t11.Vni)
 else
  gangwayref21_Check.k2 x15 rec_l4 false false
def gangwayref21_Check.k5 (x28 : Int) (rec_l8 : Bool → Int → Option (Int)) (x45 : Bool) (x46 : Bool) : Option (Int) :=
 rec_l8 x46 (i64 (x28 + 1))
def gangwayref21_Check.k6 (t11 : api_Seg) (x28 : Int) (k : Nat) (rec_l8 : Bool → Int → Option (Int)) (x38 : Bool) (x39 : Bool) : Option (Int) :=
 bif x39 then
  (getL t11.Peers.length t11.Peers x28).bind fun t41 =>
  (gangwayref21_often.f k t11.Peers t41).bind fun r43 =>
  gangwayref21_Check.k5 x28 rec_l8 true (r43 == 1)
 else
  gangwayref21_Check.k5 x28 rec_l8 false false
def gangwayref21_Check.k7 (t11 : api_Seg) (x28 : Int) (k : Nat) (a0 : Int) (rec_l8 : Bool → Int → Option (Int)) (x33 : Bool) (x34 : Bool) : Option (Int) :=
 bif x34 then
  (getL t11.Peers.length t11.Peers x28).bind fun t36 =>
  gangwayref21_Check.k6 t11 x28 k rec_l8 true (t36 != a0)
 else
  gangwayref21_Check.k6 t11 x28 k rec_l8 false false
def gangwayref21_Check.l8 (t11 : api_Seg) (k : Nat) (a0 : Int) (x9 : Int) (rec_l9 : Bool → Int → Option (Int)) : Nat → Bool → Int → Option (Int)
 | 0, _, _ => none
 | n1 + 1, x27, x28 =>
  bif decide (x28 < (t11.Peers.length : Int)) then
   bif x27 then
    (getL t11.Peers.length t11.Peers x28).bind fun t31 =>
    gangwayref21_Check.k7 t11 x28 k a0 (gangwayref21_Check.l8 t11 k a0 x9 rec_l9 n1) true (decide (t31 > 0))
   else
    gangwayref21_Check.k7 t11 x28 k a0 (gangwayref21_Check.l8 t11 k a0 x9 rec_l9 n1) false false
  else
   rec_l9 x27 (i64 (x9 + 1))
def gangwayref21_Check.l4 (x9 : Int) (a1 : (List api_Seg)) (t11 : api_Seg) (k : Nat) (a0 : Int) (rec_l9 : Bool → Int → Option (Int)) : Nat → Bool → Int → Option (Int)
 | 0, _, _ => none
 | n1 + 1, x14, x15 =>
  bif decide (x15 < x9) then
   bif x14 then
    (getL a1.length a1 x15).bind fun t18 =>
    gangwayref21_Check.k3 a1 x15 t11 (gangwayref21_Check.l4 x9 a1 t11 k a0 rec_l9 n1) true (t18.Vid != t11.Vid)
   else
    gangwayref21_Check.k3 a1 x15 t11 (gangwayref21_Check.l4 x9 a1 t11 k a0 rec_l9 n1) false false
  else
   gangwayref21_Check.l8 t11 k a0 x9 rec_l9 k x14 0
def gangwayref21_Check.l9 (a1 : (List api_Seg)) (k : Nat) (a0 : Int) : Nat → Bool → Int → Option (Int)
 | 0, _, _ => none
 | n + 1, x8, x9 =>
  bif decide (x9 < (a1.length : Int)) then
   (getL a1.length a1 x9).bind fun t11 =>
   gangwayref21_Check.l4 x9 a1 t11 k a0 (gangwayref21_Check.l9 a1 k a0 n) k ((((x8 && (decide (t11.Vid > 0))) && (decide (t11.Vid < 4095))) && (decide (t11.Vni ≥ 0))) && (decide (t11.Vni < 16777216))) 0
  else
   bif x8 then
    some 0
   else
    some 210
def gangwayref21_Check.l1 (a1 : (List api_Seg)) (k : Nat) (a0 : Int) : Nat → Int → Int → Option (Int)
 | 0, _, _ => none
 | n + 1, x1, x2 =>
  bif decide (x2 < (a1.length : Int)) then
   (getL a1.length a1 x2).bind fun t4 =>
   bif decide ((t4.Peers.length : Int) > 16) then
    some 2
   else
    gangwayref21_Check.l1 a1 k a0 n x1 (i64 (x2 + 1))
  else
   bif decide ((a1.length : Int) > 256) then
    some 2
   else
    gangwayref21_Check.l9 a1 k a0 k (decide (a0 > 0)) 0
def gangwayref21_Check.f (k : Nat) (a0 : Int) (a1 : (List api_Seg)) : Option (Int) :=
 gangwayref21_Check.l1 a1 k a0 k 0 0
theorem gangwayref21_Check_calls (k : Nat) (A00 : SkL (SkL Unit)) (a0 : Int) (a1 : (List api_Seg)) (r : Int) (h : gangwayref21_Check.f k a0 a1 = some r) : Pure Tryz.prog ([Row 3 api_Seg.encS api_Seg.inK A00 a1] ++ Glob) 66 #[.int .u32 a0, slcV A00 a1.length] (.int .i64 r) := by
 intro w Z hS
 refine callsS (args := [.int .u32 a0, slcV A00 a1.length]) (L := [(0, .int .u32 a0), (1, slcV A00 a1.length)]) (N := 123) Tryz.func66 hS ?_
 have hM := h
 clear h hS
 unfold gangwayref21_Check.f at hM
 refine WP.seq (WP.rn [] [(4, .int .i64 0)] ?_)
 refine WP.seq (WP.seq (WP.rn [] [(5, .int .i64 0)] ?_))
 refine WP.block (WP.sub [0, 1, 4, 5] (L' := [(0, .int .u32 a0), (1, slcV A00 a1.length), (4, .int .i64 0), (5, .int .i64 0)]) (by kernel_rfl) ?_)
 refine WP.lessF [0] (F' := [Row 3 api_Seg.encS api_Seg.inK A00 a1]) (by kernel_rfl) ?_
 refine WP.loop (σ := Int × Int) (fun n st => gangwayref21_Check.l1 a1 k a0 n st.1 st.2) r (fun st => [(0, .int .u32 a0), (1, slcV A00 a1.length), (4, .int .i64 st.1), (5, .int .i64 st.2)]) (fun st => Sat w Z [] [] ([Row 3 api_Seg.encS api_Seg.inK A00 a1] ++ Glob)) (st := (0, 0)) (fun n st hM => ?_) hM
 rcases n with _ | n
 ·exact nomatch (show (none : Option _) = some r from hM)
 obtain ⟨x1, x2⟩ := st
 replace hM : gangwayref21_Check.l1 a1 k a0 (n + 1) x1 x2 = some r := hM
 rw [gangwayref21_Check.l1] at hM
 try dsimp only
 refine WP.seq (WP.seq (WP.rn [] [(11, .int .i64 x2), (12, slcV A00 a1.length), (13, .int .i64 (a1.length : Int)), (14, .bool (decide (x2 < (a1.length : Int))))] ?_))
 refine WP.cond (decide (x2 < (a1.length : Int))) rfl rfl (fun c3 => ?_) (fun c3 => ?_)
 ·replace hM := cond_t hM c3
  refine WP.skip (WP.seq (WP.block (WP.seq (WP.region (WL.rn 2 [] [(17, slcV A00 a1.length), (18, .int .i64 x2)] ?_)))))
  obtain ⟨t4, h5, hM⟩ := bind_some hM
  refine WL.valF (φ := Row 3 api_Seg.encS api_Seg.inK A00 a1) (fact_at 0 rfl) (fun w hR => run_indexRowF (A := A00) (xs := a1) (i := x2) (k := .i64) (e := 93) (m := 3) (by kernel_rfl) (by kernel_rfl) h5 (by kernel_rfl) (by kernel_rfl) hR) (by kernel_rfl) (by kernel_rfl) rfl ?_
  refine WL.valF (φ := Row 3 api_Seg.encS api_Seg.inK A00 a1) (fact_at 0 rfl) (fun w hR => run_fieldRowF (A := A00) (xs := a1) (i := x2) (n := Int.toNat x2 * 3 + 0) (n' := Int.toNat x2 * 3 + 2) h5 (by kernel_rfl) (fun _ _ => by kernel_rfl) hR) (by kernel_rfl) (by kernel_rfl) rfl ?_
  refine WL.valF (φ := Row 3 api_Seg.encS api_Seg.inK A00 a1) (fact_at 0 rfl) (fun w hR => run_loadRowF (A := A00) (xs := a1) (i := x2) (j := 2) (v := slcV (A00.s (Int.toNat x2)) t4.Peers.length) h5 (fun _ => by kernel_rfl) (by kernel_rfl) (by kernel_rfl) hR) (by kernel_rfl) (by kernel_rfl) rfl ?_
  refine WL.know (Row 1 (pl (encI .u32)) noK (A00.s (Int.toNat x2)) t4.Peers) [0] [Row 3 api_Seg.encS api_Seg.inK A00 a1] (by kernel_rfl) (fun w hψ => ((hψ _ (List.mem_singleton.2 rfl)).inner _ _ (getL_parts h5).2)) ?_
  refine WL.rn 2 [] [(22, .int .i64 (t4.Peers.length : Int)), (23, .bool (decide ((t4.Peers.length : Int) > 16)))] ?_
  refine WP.done ?_
  refine WP.cond (decide ((t4.Peers.length : Int) > 16)) rfl rfl (fun c6 => ?_) (fun c6 => ?_)
  ·replace hM := cond_t hM c6
   refine WP.seq (WP.rn [] [(4, .int .i64 2)] ?_)
   obtain rfl := Option.some.inj hM
   exact WP.retF [] [] [1]
  ·replace hM := cond_f hM c6
   refine WP.skip (WP.leave (WP.rn [] [(5, .int .i64 (i64 (x2 + 1))), (15, .int .i64 x2), (16, .int .i64 (i64 (x2 + 1)))] ?_))
   exact WP.again' [0, 1, 4, 5] (x1, i64 (x2 + 1)) hM (by kernel_rfl) (fun _ h => (h.pick [] (by kernel_rfl)).lessF [1] (by kernel_rfl))
 ·replace hM := cond_f hM c3
  refine WP.exit rfl (WP.seq (WP.seq (WP.rn [] [(26, .bool (decide ((a1.length : Int) > 256)))] ?_)))
  refine WP.cond (decide ((a1.length : Int) > 256)) rfl rfl (fun c7 => ?_) (fun c7 => ?_)
  ·replace hM := cond_t hM c7
   refine WP.seq (WP.rn [] [(4, .int .i64 2)] ?_)
   obtain rfl := Option.some.inj hM
   exact WP.retF [] [] [0]
  ·replace hM := cond_f hM c7
   refine WP.skip (WP.seq (WP.rn [] [(6, .bool (decide (a0 > 0)))] ?_))
   refine WP.seq (WP.seq (WP.rn [] [(7, .int .i64 0)] ?_))
   refine WP.block (WP.sub [0, 1, 4, 6, 7] (L' := [(0, .int .u32 a0), (1, slcV A00 a1.length), (4, .int .i64 x1), (6, .bool (decide (a0 > 0))), (7, .int .i64 0)]) (by kernel_rfl) ?_)
   refine WP.lessF [0] (F' := [Row 3 api_Seg.encS api_Seg.inK A00 a1]) (by kernel_rfl) ?_
   refine WP.loop (σ := Bool × Int) (fun n st => gangwayref21_Check.l9 a1 k a0 n st.1 st.2) r (fun st => [(0, .int .u32 a0), (1, slcV A00 a1.length), (4, .int .i64 x1), (6, .bool st.1), (7, .int .i64 st.2)]) (fun st => Sat w Z [] [] ([Row 3 api_Seg.encS api_Seg.inK A00 a1] ++ Glob)) (st := (decide (a0 > 0), 0)) (fun n st hM => ?_) hM
   rcases n with _ | n
   ·exact nomatch (show (none : Option _) = some r from hM)
   obtain ⟨x8, x9⟩ := st
   replace hM : gangwayref21_Check.l9 a1 k a0 (n + 1) x8 x9 = some r := hM
   rw [gangwayref21_Check.l9] at hM
   try dsimp only
   refine WP.seq (WP.seq (WP.rn [] [(29, .int .i64 x9), (30, slcV A00 a1.length), (31, .int .i64 (a1.length : Int)), (32, .bool (decide (x9 < (a1.length : Int))))] ?_))
   refine WP.cond (decide (x9 < (a1.length : Int))) rfl rfl (fun c10 => ?_) (fun c10 => ?_)
   ·replace hM := cond_t hM c10
    refine WP.skip (WP.seq (WP.block (WP.seq (WP.region (WL.rn 2 [] [(35, slcV A00 a1.length), (36, .int .i64 x9)] ?_)))))
    obtain ⟨t11, h12, hM⟩ := bind_some hM
    refine WL.valF (φ := Row 3 api_Seg.encS api_Seg.inK A00 a1) (fact_at 0 rfl) (fun w hR => run_indexRowF (A := A00) (xs := a1) (i := x9) (k := .i64) (e := 93) (m := 3) (by kernel_rfl) (by kernel_rfl) h12 (by kernel_rfl) (by kernel_rfl) hR) (by kernel_rfl) (by kernel_rfl) rfl ?_
    refine WL.valF (φ := Row 3 api_Seg.encS api_Seg.inK A00 a1) (fact_at 0 rfl) (fun w hR => run_loadRowFA (A := A00) (xs := a1) (i := x9) (j := 0) (n := 3) (vs := [.int .i64 t11.Vid, .int .i64 t11.Vni, slcV (A00.s (Int.toNat x9)) t11.Peers.length]) h12 (fun _ => by kernel_rfl) (by kernel_rfl) (by kernel_rfl) (by kernel_rfl) rfl hR) (by kernel_rfl) (by kernel_rfl) rfl ?_
    refine WL.know (Row 1 (pl (encI .u32)) noK (A00.s (Int.toNat x9)) t11.Peers) [0] [Row 3 api_Seg.encS api_Seg.inK A00 a1] (by kernel_rfl) (fun w hψ => ((hψ _ (List.mem_singleton.2 rfl)).inner _ _ (getL_parts h12).2)) ?_
    refine WL.rh 2 [0, 0, 0] (fun b13 => [(8, .pointer (some ⟨b13, 0, none⟩))]) (fun b13 => []) (fun b13 => [(b13, .cells #[.int .i64 t11.Vid, .int .i64 t11.Vni, slcV (A00.s (Int.toNat x9)) t11.Peers.length] 93 (0, 0))]) (fun b13 => ?_)
    refine WP.done (WP.seq (WP.region (WL.rn 2 [] [(39, .bool x8), (40, .bool x8)] ?_)))
    refine WL.bo 40 x8 4 [0] [] (fun b' => [(44, .bool (b' && (decide (t11.Vid > 0))))]) ?_
    refine WL.rn 1 [] [(45, .bool (x8 && (decide (t11.Vid > 0))))] ?_
    refine WL.bo 45 (x8 && (decide (t11.Vid > 0))) 4 [0] [] (fun b' => [(49, .bool (b' && (decide (t11.Vid < 4095))))]) ?_
    refine WL.rn 1 [] [(50, .bool ((x8 && (decide (t11.Vid > 0))) && (decide (t11.Vid < 4095))))] ?_
    refine WL.bo 50 ((x8 && (decide (t11.Vid > 0))) && (decide (t11.Vid < 4095))) 4 [0] [] (fun b' => [(54, .bool (b' && (decide (t11.Vni ≥ 0))))]) ?_
    refine WL.rn 1 [] [(55, .bool (((x8 && (decide (t11.Vid > 0))) && (decide (t11.Vid < 4095))) && (decide (t11.Vni ≥ 0))))] ?_
    refine WL.bo 55 (((x8 && (decide (t11.Vid > 0))) && (decide (t11.Vid < 4095))) && (decide (t11.Vni ≥ 0))) 4 [0] [] (fun b' => [(59, .bool (b' && (decide (t11.Vni < 16777216))))]) ?_
    refine WL.rn 1 [] [(6, .bool ((((x8 && (decide (t11.Vid > 0))) && (decide (t11.Vid < 4095))) && (decide (t11.Vni ≥ 0))) && (decide (t11.Vni < 16777216))))] ?_
    refine WP.done (WP.seq (WP.seq (WP.rn [] [(9, .int .i64 0)] ?_)))
    refine WP.block ?_
    refine WP.sub [0, 1, 4, 6, 7, 8, 9, 29, 30, 31, 32, 35, 36, 37, 38, 39, 40, 44, 45, 49, 50, 54, 55, 59] (L' := [(0, .int .u32 a0), (1, slcV A00 a1.length), (4, .int .i64 x1), (6, .bool ((((x8 && (decide (t11.Vid > 0))) && (decide (t11.Vid < 4095))) && (decide (t11.Vni ≥ 0))) && (decide (t11.Vni < 16777216)))), (7, .int .i64 x9), (8, .pointer (some ⟨b13, 0, none⟩)), (9, .int .i64 0), (29, .int .i64 x9), (30, slcV A00 a1.length), (31, .int .i64 (a1.length : Int)), (32, .bool (decide (x9 < (a1.length : Int)))), (35, slcV A00 a1.length), (36, .int .i64 x9), (37, ptrV A00 (Int.toNat x9 * 3)), (38, .agg #[.int .i64 t11.Vid, .int .i64 t11.Vni, slcV (A00.s (Int.toNat x9)) t11.Peers.length]), (39, .bool x8), (40, .bool x8), (44, .bool (x8 && (decide (t11.Vid > 0)))), (45, .bool (x8 && (decide (t11.Vid > 0)))), (49, .bool ((x8 && (decide (t11.Vid > 0))) && (decide (t11.Vid < 4095)))), (50, .bool ((x8 && (decide (t11.Vid > 0))) && (decide (t11.Vid < 4095)))), (54, .bool (((x8 && (decide (t11.Vid > 0))) && (decide (t11.Vid < 4095))) && (decide (t11.Vni ≥ 0)))), (55, .bool (((x8 && (decide (t11.Vid > 0))) && (decide (t11.Vid < 4095))) && (decide (t11.Vni ≥ 0)))), (59, .bool ((((x8 && (decide (t11.Vid > 0))) && (decide (t11.Vid < 4095))) && (decide (t11.Vni ≥ 0))) && (decide (t11.Vni < 16777216))))]) (by kernel_rfl) ?_
    refine WP.lessF [0, 1] (F' := [Row 1 (pl (encI .u32)) noK (A00.s (Int.toNat x9)) t11.Peers, Row 3 api_Seg.encS api_Seg.inK A00 a1]) (by kernel_rfl) ?_
    refine WP.loop (σ := Bool × Int) (fun n1 st => gangwayref21_Check.l4 x9 a1 t11 k a0 (gangwayref21_Check.l9 a1 k a0 n) n1 st.1 st.2) r (fun st => [(0, .int .u32 a0), (1, slcV A00 a1.length), (4, .int .i64 x1), (6, .bool st.1), (7, .int .i64 x9), (8, .pointer (some ⟨b13, 0, none⟩)), (9, .int .i64 st.2), (29, .int .i64 x9), (30, slcV A00 a1.length), (31, .int .i64 (a1.length : Int)), (32, .bool (decide (x9 < (a1.length : Int)))), (35, slcV A00 a1.length), (36, .int .i64 x9), (37, ptrV A00 (Int.toNat x9 * 3)), (38, .agg #[.int .i64 t11.Vid, .int .i64 t11.Vni, slcV (A00.s (Int.toNat x9)) t11.Peers.length]), (39, .bool x8), (40, .bool x8), (44, .bool (x8 && (decide (t11.Vid > 0)))), (45, .bool (x8 && (decide (t11.Vid > 0)))), (49, .bool ((x8 && (decide (t11.Vid > 0))) && (decide (t11.Vid < 4095)))), (50, .bool ((x8 && (decide (t11.Vid > 0))) && (decide (t11.Vid < 4095)))), (54, .bool (((x8 && (decide (t11.Vid > 0))) && (decide (t11.Vid < 4095))) && (decide (t11.Vni ≥ 0)))), (55, .bool (((x8 && (decide (t11.Vid > 0))) && (decide (t11.Vid < 4095))) && (decide (t11.Vni ≥ 0)))), (59, .bool ((((x8 && (decide (t11.Vid > 0))) && (decide (t11.Vid < 4095))) && (decide (t11.Vni ≥ 0))) && (decide (t11.Vni < 16777216))))]) (fun st => Sat w Z [(b13, .cells #[.int .i64 t11.Vid, .int .i64 t11.Vni, slcV (A00.s (Int.toNat x9)) t11.Peers.length] 93 (0, 0))] [] ([Row 1 (pl (encI .u32)) noK (A00.s (Int.toNat x9)) t11.Peers, Row 3 api_Seg.encS api_Seg.inK A00 a1] ++ Glob)) (st := (((((x8 && (decide (t11.Vid > 0))) && (decide (t11.Vid < 4095))) && (decide (t11.Vni ≥ 0))) && (decide (t11.Vni < 16777216))), 0)) (fun n1 st hM => ?_) hM
    rcases n1 with _ | n1
    ·exact nomatch (show (none : Option _) = some r from hM)
    obtain ⟨x14, x15⟩ := st
    replace hM : gangwayref21_Check.l4 x9 a1 t11 k a0 (gangwayref21_Check.l9 a1 k a0 n) (n1 + 1) x14 x15 = some r := hM
    rw [gangwayref21_Check.l4] at hM
    try dsimp only
    refine WP.seq (WP.seq (WP.rn [] [(60, .int .i64 x15), (61, .int .i64 x9), (62, .bool (decide (x15 < x9)))] ?_))
    refine WP.cond (decide (x15 < x9)) rfl rfl (fun c16 => ?_) (fun c16 => ?_)
    ·replace hM := cond_t hM c16
     refine WP.skip (WP.seq (WP.block (WP.quiet (by kernel_rfl) (by kernel_rfl) ?_)))
     refine QL.rn 2 [] [(65, .bool x14), (66, .bool x14)] ?_
     refine QL.join (σ := Bool × Bool) 9 (fun st => gangwayref21_Check.k3 a1 x15 t11 (gangwayref21_Check.l4 x9 a1 t11 k a0 (gangwayref21_Check.l9 a1 k a0 n) n1) st.1 st.2 = some r) (fun st => [(0, .int .u32 a0), (1, slcV A00 a1.length), (4, .int .i64 x1), (6, .bool x14), (7, .int .i64 x9), (8, .pointer (some ⟨b13, 0, none⟩)), (9, .int .i64 x15), (29, .int .i64 x9), (30, slcV A00 a1.length), (31, .int .i64 (a1.length : Int)), (32, .bool (decide (x9 < (a1.length : Int)))), (35, slcV A00 a1.length), (36, .int .i64 x9), (37, ptrV A00 (Int.toNat x9 * 3)), (38, .agg #[.int .i64 t11.Vid, .int .i64 t11.Vni, slcV (A00.s (Int.toNat x9)) t11.Peers.length]), (39, .bool x8), (40, .bool x8), (44, .bool (x8 && (decide (t11.Vid > 0)))), (45, .bool (x8 && (decide (t11.Vid > 0)))), (49, .bool ((x8 && (decide (t11.Vid > 0))) && (decide (t11.Vid < 4095)))), (50, .bool ((x8 && (decide (t11.Vid > 0))) && (decide (t11.Vid < 4095)))), (54, .bool (((x8 && (decide (t11.Vid > 0))) && (decide (t11.Vid < 4095))) && (decide (t11.Vni ≥ 0)))), (55, .bool (((x8 && (decide (t11.Vid > 0))) && (decide (t11.Vid < 4095))) && (decide (t11.Vni ≥ 0)))), (59, .bool ((((x8 && (decide (t11.Vid > 0))) && (decide (t11.Vid < 4095))) && (decide (t11.Vni ≥ 0))) && (decide (t11.Vni < 16777216)))), (60, .int .i64 x15), (61, .int .i64 x9), (62, .bool (decide (x15 < x9))), (65, .bool x14), (66, .bool st.1), (75, .bool st.2)]) (fun st hM => ?_) (fun K3 => ?_)
     ·
      obtain ⟨x20, x21⟩ := st
      replace hM : gangwayref21_Check.k3 a1 x15 t11 (gangwayref21_Check.l4 x9 a1 t11 k a0 (gangwayref21_Check.l9 a1 k a0 n) n1) x20 x21 = some r := hM
      unfold gangwayref21_Check.k3 at hM
      show QL _ _ _ _ _ _ [(0, .int .u32 a0), (1, slcV A00 a1.length), (4, .int .i64 x1), (6, .bool x14), (7, .int .i64 x9), (8, .pointer (some ⟨b13, 0, none⟩)), (9, .int .i64 x15), (29, .int .i64 x9), (30, slcV A00 a1.length), (31, .int .i64 (a1.length : Int)), (32, .bool (decide (x9 < (a1.length : Int)))), (35, slcV A00 a1.length), (36, .int .i64 x9), (37, ptrV A00 (Int.toNat x9 * 3)), (38, .agg #[.int .i64 t11.Vid, .int .i64 t11.Vni, slcV (A00.s (Int.toNat x9)) t11.Peers.length]), (39, .bool x8), (40, .bool x8), (44, .bool (x8 && (decide (t11.Vid > 0)))), (45, .bool (x8 && (decide (t11.Vid > 0)))), (49, .bool ((x8 && (decide (t11.Vid > 0))) && (decide (t11.Vid < 4095)))), (50, .bool ((x8 && (decide (t11.Vid > 0))) && (decide (t11.Vid < 4095)))), (54, .bool (((x8 && (decide (t11.Vid > 0))) && (decide (t11.Vid < 4095))) && (decide (t11.Vni ≥ 0)))), (55, .bool (((x8 && (decide (t11.Vid > 0))) && (decide (t11.Vid < 4095))) && (decide (t11.Vni ≥ 0)))), (59, .bool ((((x8 && (decide (t11.Vid > 0))) && (decide (t11.Vid < 4095))) && (decide (t11.Vni ≥ 0))) && (decide (t11.Vni < 16777216)))), (60, .int .i64 x15), (61, .int .i64 x9), (62, .bool (decide (x15 < x9))), (65, .bool x14), (66, .bool x20), (75, .bool x21)]
      refine QL.rn 1 [] [(76, .bool x21)] ?_
      refine QL.join (σ := Bool × Bool) 9 (fun st => gangwayref21_Check.k2 x15 (gangwayref21_Check.l4 x9 a1 t11 k a0 (gangwayref21_Check.l9 a1 k a0 n) n1) st.1 st.2 = some r) (fun st => [(0, .int .u32 a0), (1, slcV A00 a1.length), (4, .int .i64 x1), (6, .bool x14), (7, .int .i64 x9), (8, .pointer (some ⟨b13, 0, none⟩)), (9, .int .i64 x15), (29, .int .i64 x9), (30, slcV A00 a1.length), (31, .int .i64 (a1.length : Int)), (32, .bool (decide (x9 < (a1.length : Int)))), (35, slcV A00 a1.length), (36, .int .i64 x9), (37, ptrV A00 (Int.toNat x9 * 3)), (38, .agg #[.int .i64 t11.Vid, .int .i64 t11.Vni, slcV (A00.s (Int.toNat x9)) t11.Peers.length]), (39, .bool x8), (40, .bool x8), (44, .bool (x8 && (decide (t11.Vid > 0)))), (45, .bool (x8 && (decide (t11.Vid > 0)))), (49, .bool ((x8 && (decide (t11.Vid > 0))) && (decide (t11.Vid < 4095)))), (50, .bool ((x8 && (decide (t11.Vid > 0))) && (decide (t11.Vid < 4095)))), (54, .bool (((x8 && (decide (t11.Vid > 0))) && (decide (t11.Vid < 4095))) && (decide (t11.Vni ≥ 0)))), (55, .bool (((x8 && (decide (t11.Vid > 0))) && (decide (t11.Vid < 4095))) && (decide (t11.Vni ≥ 0)))), (59, .bool ((((x8 && (decide (t11.Vid > 0))) && (decide (t11.Vid < 4095))) && (decide (t11.Vni ≥ 0))) && (decide (t11.Vni < 16777216)))), (60, .int .i64 x15), (61, .int .i64 x9), (62, .bool (decide (x15 < x9))), (65, .bool x14), (66, .bool x20), (75, .bool x21), (76, .bool st.1), (85, .bool st.2)]) (fun st hM => ?_) (fun K2 => ?_)
      ·
       obtain ⟨x25, x26⟩ := st
       replace hM : gangwayref21_Check.k2 x15 (gangwayref21_Check.l4 x9 a1 t11 k a0 (gangwayref21_Check.l9 a1 k a0 n) n1) x25 x26 = some r := hM
       unfold gangwayref21_Check.k2 at hM
       show QL _ _ _ _ _ _ [(0, .int .u32 a0), (1, slcV A00 a1.length), (4, .int .i64 x1), (6, .bool x14), (7, .int .i64 x9), (8, .pointer (some ⟨b13, 0, none⟩)), (9, .int .i64 x15), (29, .int .i64 x9), (30, slcV A00 a1.length), (31, .int .i64 (a1.length : Int)), (32, .bool (decide (x9 < (a1.length : Int)))), (35, slcV A00 a1.length), (36, .int .i64 x9), (37, ptrV A00 (Int.toNat x9 * 3)), (38, .agg #[.int .i64 t11.Vid, .int .i64 t11.Vni, slcV (A00.s (Int.toNat x9)) t11.Peers.length]), (39, .bool x8), (40, .bool x8), (44, .bool (x8 && (decide (t11.Vid > 0)))), (45, .bool (x8 && (decide (t11.Vid > 0)))), (49, .bool ((x8 && (decide (t11.Vid > 0))) && (decide (t11.Vid < 4095)))), (50, .bool ((x8 && (decide (t11.Vid > 0))) && (decide (t11.Vid < 4095)))), (54, .bool (((x8 && (decide (t11.Vid > 0))) && (decide (t11.Vid < 4095))) && (decide (t11.Vni ≥ 0)))), (55, .bool (((x8 && (decide (t11.Vid > 0))) && (decide (t11.Vid < 4095))) && (decide (t11.Vni ≥ 0)))), (59, .bool ((((x8 && (decide (t11.Vid > 0))) && (decide (t11.Vid < 4095))) && (decide (t11.Vni ≥ 0))) && (decide (t11.Vni < 16777216)))), (60, .int .i64 x15), (61, .int .i64 x9), (62, .bool (decide (x15 < x9))), (65, .bool x14), (66, .bool x20), (75, .bool x21), (76, .bool x25), (85, .bool x26)]
       refine QL.rn 1 [] [(6, .bool x26)] ?_
       refine QL.done ?_
       refine WP.leave (WP.rn [] [(9, .int .i64 (i64 (x15 + 1))), (63, .int .i64 x15), (64, .int .i64 (i64 (x15 + 1)))] ?_)
       exact WP.again' [0, 1, 4, 6, 7, 8, 9, 29, 30, 31, 32, 35, 36, 37, 38, 39, 40, 44, 45, 49, 50, 54, 55, 59] (x26, i64 (x15 + 1)) hM (by kernel_rfl) (fun _ h => (h.pick [0] (by kernel_rfl)).lessF [0, 1] (by kernel_rfl))
      ·
       refine QL.sp 76 x21 (fun c22 => ?_) (fun c22 => ?_)
       ·replace hM := cond_t hM c22
        refine QL.rn 2 [] [(77, slcV A00 a1.length), (78, .int .i64 x15)] ?_
        obtain ⟨t23, h24, hM⟩ := bind_some hM
        refine QL.valF (φ := Row 3 api_Seg.encS api_Seg.inK A00 a1) (fact_at 1 rfl) (fun w hR => run_indexRowF (A := A00) (xs := a1) (i := x15) (k := .i64) (e := 93) (m := 3) (by kernel_rfl) (by kernel_rfl) h24 (by kernel_rfl) (by kernel_rfl) hR) (by kernel_rfl) (by kernel_rfl) rfl ?_
        refine QL.valF (φ := Row 3 api_Seg.encS api_Seg.inK A00 a1) (fact_at 1 rfl) (fun w hR => run_fieldRowF (A := A00) (xs := a1) (i := x15) (n := Int.toNat x15 * 3 + 0) (n' := Int.toNat x15 * 3 + 1) h24 (by kernel_rfl) (fun _ _ => by kernel_rfl) hR) (by kernel_rfl) (by kernel_rfl) rfl ?_
        refine QL.valF (φ := Row 3 api_Seg.encS api_Seg.inK A00 a1) (fact_at 1 rfl) (fun w hR => run_loadRowF (A := A00) (xs := a1) (i := x15) (j := 1) (v := .int .i64 t23.Vni) h24 (fun _ => by kernel_rfl) (by kernel_rfl) (by kernel_rfl) hR) (by kernel_rfl) (by kernel_rfl) rfl ?_
        refine QL.rn 4 [0] [(82, .pointer (some ⟨b13, 1, none⟩)), (83, .int .i64 t11.Vni), (84, .bool (t23.Vni != t11.Vni)), (85, .bool (t23.Vni != t11.Vni))] ?_
        exact QL.sub [0, 1, 4, 6, 7, 8, 9, 29, 30, 31, 32, 35, 36, 37, 38, 39, 40, 44, 45, 49, 50, 54, 55, 59, 60, 61, 62, 65, 66, 75, 76, 85] (by kernel_rfl) (K2 (true, (t23.Vni != t11.Vni)) hM)
       ·replace hM := cond_f hM c22
        refine QL.rn 9 [] [(77, .tuple #[]), (78, .tuple #[]), (79, .tuple #[]), (80, .tuple #[]), (81, .tuple #[]), (82, .tuple #[]), (83, .tuple #[]), (84, .tuple #[]), (85, .bool false)] ?_
        exact QL.sub [0, 1, 4, 6, 7, 8, 9, 29, 30, 31, 32, 35, 36, 37, 38, 39, 40, 44, 45, 49, 50, 54, 55, 59, 60, 61, 62, 65, 66, 75, 76, 85] (by kernel_rfl) (K2 (false, false) hM)
     ·
      refine QL.sp 66 x14 (fun c17 => ?_) (fun c17 => ?_)
      ·replace hM := cond_t hM c17
       refine QL.rn 2 [] [(67, slcV A00 a1.length), (68, .int .i64 x15)] ?_
       obtain ⟨t18, h19, hM⟩ := bind_some hM
       refine QL.valF (φ := Row 3 api_Seg.encS api_Seg.inK A00 a1) (fact_at 1 rfl) (fun w hR => run_indexRowF (A := A00) (xs := a1) (i := x15) (k := .i64) (e := 93) (m := 3) (by kernel_rfl) (by kernel_rfl) h19 (by kernel_rfl) (by kernel_rfl) hR) (by kernel_rfl) (by kernel_rfl) rfl ?_
       refine QL.valF (φ := Row 3 api_Seg.encS api_Seg.inK A00 a1) (fact_at 1 rfl) (fun w hR => run_fieldRowF (A := A00) (xs := a1) (i := x15) (n := Int.toNat x15 * 3 + 0) (n' := Int.toNat x15 * 3 + 0) h19 (by kernel_rfl) (fun _ _ => by kernel_rfl) hR) (by kernel_rfl) (by kernel_rfl) rfl ?_
       refine QL.valF (φ := Row 3 api_Seg.encS api_Seg.inK A00 a1) (fact_at 1 rfl) (fun w hR => run_loadRowF (A := A00) (xs := a1) (i := x15) (j := 0) (v := .int .i64 t18.Vid) h19 (fun _ => by kernel_rfl) (by kernel_rfl) (by kernel_rfl) hR) (by kernel_rfl) (by kernel_rfl) rfl ?_
       refine QL.rn 4 [0] [(72, .pointer (some ⟨b13, 0, none⟩)), (73, .int .i64 t11.Vid), (74, .bool (t18.Vid != t11.Vid)), (75, .bool (t18.Vid != t11.Vid))] ?_
       exact QL.sub [0, 1, 4, 6, 7, 8, 9, 29, 30, 31, 32, 35, 36, 37, 38, 39, 40, 44, 45, 49, 50, 54, 55, 59, 60, 61, 62, 65, 66, 75] (by kernel_rfl) (K3 (true, (t18.Vid != t11.Vid)) hM)
      ·replace hM := cond_f hM c17
       refine QL.rn 9 [] [(67, .tuple #[]), (68, .tuple #[]), (69, .tuple #[]), (70, .tuple #[]), (71, .tuple #[]), (72, .tuple #[]), (73, .tuple #[]), (74, .tuple #[]), (75, .bool false)] ?_
       exact QL.sub [0, 1, 4, 6, 7, 8, 9, 29, 30, 31, 32, 35, 36, 37, 38, 39, 40, 44, 45, 49, 50, 54, 55, 59, 60, 61, 62, 65, 66, 75] (by kernel_rfl) (K3 (false, false) hM)
    ·replace hM := cond_f hM c16
     refine WP.exit rfl (WP.seq (WP.rn [] [(10, .int .i64 0)] ?_))
     refine WP.block ?_
     refine WP.sub [0, 1, 4, 6, 7, 8, 9, 10, 29, 30, 31, 32, 35, 36, 37, 38, 39, 40, 44, 45, 49, 50, 54, 55, 59, 60, 61, 62] (L' := [(0, .int .u32 a0), (1, slcV A00 a1.length), (4, .int .i64 x1), (6, .bool x14), (7, .int .i64 x9), (8, .pointer (some ⟨b13, 0, none⟩)), (9, .int .i64 x15), (10, .int .i64 0), (29, .int .i64 x9), (30, slcV A00 a1.length), (31, .int .i64 (a1.length : Int)), (32, .bool (decide (x9 < (a1.length : Int)))), (35, slcV A00 a1.length), (36, .int .i64 x9), (37, ptrV A00 (Int.toNat x9 * 3)), (38, .agg #[.int .i64 t11.Vid, .int .i64 t11.Vni, slcV (A00.s (Int.toNat x9)) t11.Peers.length]), (39, .bool x8), (40, .bool x8), (44, .bool (x8 && (decide (t11.Vid > 0)))), (45, .bool (x8 && (decide (t11.Vid > 0)))), (49, .bool ((x8 && (decide (t11.Vid > 0))) && (decide (t11.Vid < 4095)))), (50, .bool ((x8 && (decide (t11.Vid > 0))) && (decide (t11.Vid < 4095)))), (54, .bool (((x8 && (decide (t11.Vid > 0))) && (decide (t11.Vid < 4095))) && (decide (t11.Vni ≥ 0)))), (55, .bool (((x8 && (decide (t11.Vid > 0))) && (decide (t11.Vid < 4095))) && (decide (t11.Vni ≥ 0)))), (59, .bool ((((x8 && (decide (t11.Vid > 0))) && (decide (t11.Vid < 4095))) && (decide (t11.Vni ≥ 0))) && (decide (t11.Vni < 16777216)))), (60, .int .i64 x15), (61, .int .i64 x9), (62, .bool (decide (x15 < x9)))]) (by kernel_rfl) ?_
     refine WP.lessF [0, 1] (F' := [Row 1 (pl (encI .u32)) noK (A00.s (Int.toNat x9)) t11.Peers, Row 3 api_Seg.encS api_Seg.inK A00 a1]) (by kernel_rfl) ?_
     refine WP.loop (σ := Bool × Int) (fun n1 st => gangwayref21_Check.l8 t11 k a0 x9 (gangwayref21_Check.l9 a1 k a0 n) n1 st.1 st.2) r (fun st => [(0, .int .u32 a0), (1, slcV A00 a1.length), (4, .int .i64 x1), (6, .bool st.1), (7, .int .i64 x9), (8, .pointer (some ⟨b13, 0, none⟩)), (9, .int .i64 x15), (10, .int .i64 st.2), (29, .int .i64 x9), (30, slcV A00 a1.length), (31, .int .i64 (a1.length : Int)), (32, .bool (decide (x9 < (a1.length : Int)))), (35, slcV A00 a1.length), (36, .int .i64 x9), (37, ptrV A00 (Int.toNat x9 * 3)), (38, .agg #[.int .i64 t11.Vid, .int .i64 t11.Vni, slcV (A00.s (Int.toNat x9)) t11.Peers.length]), (39, .bool x8), (40, .bool x8), (44, .bool (x8 && (decide (t11.Vid > 0)))), (45, .bool (x8 && (decide (t11.Vid > 0)))), (49, .bool ((x8 && (decide (t11.Vid > 0))) && (decide (t11.Vid < 4095)))), (50, .bool ((x8 && (decide (t11.Vid > 0))) && (decide (t11.Vid < 4095)))), (54, .bool (((x8 && (decide (t11.Vid > 0))) && (decide (t11.Vid < 4095))) && (decide (t11.Vni ≥ 0)))), (55, .bool (((x8 && (decide (t11.Vid > 0))) && (decide (t11.Vid < 4095))) && (decide (t11.Vni ≥ 0)))), (59, .bool ((((x8 && (decide (t11.Vid > 0))) && (decide (t11.Vid < 4095))) && (decide (t11.Vni ≥ 0))) && (decide (t11.Vni < 16777216)))), (60, .int .i64 x15), (61, .int .i64 x9), (62, .bool (decide (x15 < x9)))]) (fun st => Sat w Z [(b13, .cells #[.int .i64 t11.Vid, .int .i64 t11.Vni, slcV (A00.s (Int.toNat x9)) t11.Peers.length] 93 (0, 0))] [] ([Row 1 (pl (encI .u32)) noK (A00.s (Int.toNat x9)) t11.Peers, Row 3 api_Seg.encS api_Seg.inK A00 a1] ++ Glob)) (st := (x14, 0)) (fun n1 st hM => ?_) hM
     rcases n1 with _ | n1
     ·exact nomatch (show (none : Option _) = some r from hM)
     obtain ⟨x27, x28⟩ := st
     replace hM : gangwayref21_Check.l8 t11 k a0 x9 (gangwayref21_Check.l9 a1 k a0 n) (n1 + 1) x27 x28 = some r := hM
     rw [gangwayref21_Check.l8] at hM
     try dsimp only
     refine WP.seq (WP.seq ?_)
     refine WP.rn [0] [(86, .int .i64 x28), (87, .pointer (some ⟨b13, 2, none⟩)), (88, slcV (A00.s (Int.toNat x9)) t11.Peers.length), (89, .int .i64 (t11.Peers.length : Int)), (90, .bool (decide (x28 < (t11.Peers.length : Int))))] ?_
     refine WP.cond (decide (x28 < (t11.Peers.length : Int))) rfl rfl (fun c29 => ?_) (fun c29 => ?_)
     ·replace hM := cond_t hM c29
      refine WP.skip (WP.seq (WP.block (WP.quiet (by kernel_rfl) (by kernel_rfl) ?_)))
      refine QL.rn 2 [] [(93, .bool x27), (94, .bool x27)] ?_
      refine QL.join (σ := Bool × Bool) 7 (fun st => gangwayref21_Check.k7 t11 x28 k a0 (gangwayref21_Check.l8 t11 k a0 x9 (gangwayref21_Check.l9 a1 k a0 n) n1) st.1 st.2 = some r) (fun st => [(0, .int .u32 a0), (1, slcV A00 a1.length), (4, .int .i64 x1), (6, .bool x27), (7, .int .i64 x9), (8, .pointer (some ⟨b13, 0, none⟩)), (9, .int .i64 x15), (10, .int .i64 x28), (29, .int .i64 x9), (30, slcV A00 a1.length), (31, .int .i64 (a1.length : Int)), (32, .bool (decide (x9 < (a1.length : Int)))), (35, slcV A00 a1.length), (36, .int .i64 x9), (37, ptrV A00 (Int.toNat x9 * 3)), (38, .agg #[.int .i64 t11.Vid, .int .i64 t11.Vni, slcV (A00.s (Int.toNat x9)) t11.Peers.length]), (39, .bool x8), (40, .bool x8), (44, .bool (x8 && (decide (t11.Vid > 0)))), (45, .bool (x8 && (decide (t11.Vid > 0)))), (49, .bool ((x8 && (decide (t11.Vid > 0))) && (decide (t11.Vid < 4095)))), (50, .bool ((x8 && (decide (t11.Vid > 0))) && (decide (t11.Vid < 4095)))), (54, .bool (((x8 && (decide (t11.Vid > 0))) && (decide (t11.Vid < 4095))) && (decide (t11.Vni ≥ 0)))), (55, .bool (((x8 && (decide (t11.Vid > 0))) && (decide (t11.Vid < 4095))) && (decide (t11.Vni ≥ 0)))), (59, .bool ((((x8 && (decide (t11.Vid > 0))) && (decide (t11.Vid < 4095))) && (decide (t11.Vni ≥ 0))) && (decide (t11.Vni < 16777216)))), (60, .int .i64 x15), (61, .int .i64 x9), (62, .bool (decide (x15 < x9))), (86, .int .i64 x28), (87, .pointer (some ⟨b13, 2, none⟩)), (88, slcV (A00.s (Int.toNat x9)) t11.Peers.length), (89, .int .i64 (t11.Peers.length : Int)), (90, .bool (decide (x28 < (t11.Peers.length : Int)))), (93, .bool x27), (94, .bool st.1), (101, .bool st.2)]) (fun st hM => ?_) (fun K7 => ?_)
      ·
       obtain ⟨x33, x34⟩ := st
       replace hM : gangwayref21_Check.k7 t11 x28 k a0 (gangwayref21_Check.l8 t11 k a0 x9 (gangwayref21_Check.l9 a1 k a0 n) n1) x33 x34 = some r := hM
       unfold gangwayref21_Check.k7 at hM
       show QL _ _ _ _ _ _ [(0, .int .u32 a0), (1, slcV A00 a1.length), (4, .int .i64 x1), (6, .bool x27), (7, .int .i64 x9), (8, .pointer (some ⟨b13, 0, none⟩)), (9, .int .i64 x15), (10, .int .i64 x28), (29, .int .i64 x9), (30, slcV A00 a1.length), (31, .int .i64 (a1.length : Int)), (32, .bool (decide (x9 < (a1.length : Int)))), (35, slcV A00 a1.length), (36, .int .i64 x9), (37, ptrV A00 (Int.toNat x9 * 3)), (38, .agg #[.int .i64 t11.Vid, .int .i64 t11.Vni, slcV (A00.s (Int.toNat x9)) t11.Peers.length]), (39, .bool x8), (40, .bool x8), (44, .bool (x8 && (decide (t11.Vid > 0)))), (45, .bool (x8 && (decide (t11.Vid > 0)))), (49, .bool ((x8 && (decide (t11.Vid > 0))) && (decide (t11.Vid < 4095)))), (50, .bool ((x8 && (decide (t11.Vid > 0))) && (decide (t11.Vid < 4095)))), (54, .bool (((x8 && (decide (t11.Vid > 0))) && (decide (t11.Vid < 4095))) && (decide (t11.Vni ≥ 0)))), (55, .bool (((x8 && (decide (t11.Vid > 0))) && (decide (t11.Vid < 4095))) && (decide (t11.Vni ≥ 0)))), (59, .bool ((((x8 && (decide (t11.Vid > 0))) && (decide (t11.Vid < 4095))) && (decide (t11.Vni ≥ 0))) && (decide (t11.Vni < 16777216)))), (60, .int .i64 x15), (61, .int .i64 x9), (62, .bool (decide (x15 < x9))), (86, .int .i64 x28), (87, .pointer (some ⟨b13, 2, none⟩)), (88, slcV (A00.s (Int.toNat x9)) t11.Peers.length), (89, .int .i64 (t11.Peers.length : Int)), (90, .bool (decide (x28 < (t11.Peers.length : Int)))), (93, .bool x27), (94, .bool x33), (101, .bool x34)]
       refine QL.rn 1 [] [(102, .bool x34)] ?_
       refine QL.join (σ := Bool × Bool) 8 (fun st => gangwayref21_Check.k6 t11 x28 k (gangwayref21_Check.l8 t11 k a0 x9 (gangwayref21_Check.l9 a1 k a0 n) n1) st.1 st.2 = some r) (fun st => [(0, .int .u32 a0), (1, slcV A00 a1.length), (4, .int .i64 x1), (6, .bool x27), (7, .int .i64 x9), (8, .pointer (some ⟨b13, 0, none⟩)), (9, .int .i64 x15), (10, .int .i64 x28), (29, .int .i64 x9), (30, slcV A00 a1.length), (31, .int .i64 (a1.length : Int)), (32, .bool (decide (x9 < (a1.length : Int)))), (35, slcV A00 a1.length), (36, .int .i64 x9), (37, ptrV A00 (Int.toNat x9 * 3)), (38, .agg #[.int .i64 t11.Vid, .int .i64 t11.Vni, slcV (A00.s (Int.toNat x9)) t11.Peers.length]), (39, .bool x8), (40, .bool x8), (44, .bool (x8 && (decide (t11.Vid > 0)))), (45, .bool (x8 && (decide (t11.Vid > 0)))), (49, .bool ((x8 && (decide (t11.Vid > 0))) && (decide (t11.Vid < 4095)))), (50, .bool ((x8 && (decide (t11.Vid > 0))) && (decide (t11.Vid < 4095)))), (54, .bool (((x8 && (decide (t11.Vid > 0))) && (decide (t11.Vid < 4095))) && (decide (t11.Vni ≥ 0)))), (55, .bool (((x8 && (decide (t11.Vid > 0))) && (decide (t11.Vid < 4095))) && (decide (t11.Vni ≥ 0)))), (59, .bool ((((x8 && (decide (t11.Vid > 0))) && (decide (t11.Vid < 4095))) && (decide (t11.Vni ≥ 0))) && (decide (t11.Vni < 16777216)))), (60, .int .i64 x15), (61, .int .i64 x9), (62, .bool (decide (x15 < x9))), (86, .int .i64 x28), (87, .pointer (some ⟨b13, 2, none⟩)), (88, slcV (A00.s (Int.toNat x9)) t11.Peers.length), (89, .int .i64 (t11.Peers.length : Int)), (90, .bool (decide (x28 < (t11.Peers.length : Int)))), (93, .bool x27), (94, .bool x33), (101, .bool x34), (102, .bool st.1), (110, .bool st.2)]) (fun st hM => ?_) (fun K6 => ?_)
       ·
        obtain ⟨x38, x39⟩ := st
        replace hM : gangwayref21_Check.k6 t11 x28 k (gangwayref21_Check.l8 t11 k a0 x9 (gangwayref21_Check.l9 a1 k a0 n) n1) x38 x39 = some r := hM
        unfold gangwayref21_Check.k6 at hM
        show QL _ _ _ _ _ _ [(0, .int .u32 a0), (1, slcV A00 a1.length), (4, .int .i64 x1), (6, .bool x27), (7, .int .i64 x9), (8, .pointer (some ⟨b13, 0, none⟩)), (9, .int .i64 x15), (10, .int .i64 x28), (29, .int .i64 x9), (30, slcV A00 a1.length), (31, .int .i64 (a1.length : Int)), (32, .bool (decide (x9 < (a1.length : Int)))), (35, slcV A00 a1.length), (36, .int .i64 x9), (37, ptrV A00 (Int.toNat x9 * 3)), (38, .agg #[.int .i64 t11.Vid, .int .i64 t11.Vni, slcV (A00.s (Int.toNat x9)) t11.Peers.length]), (39, .bool x8), (40, .bool x8), (44, .bool (x8 && (decide (t11.Vid > 0)))), (45, .bool (x8 && (decide (t11.Vid > 0)))), (49, .bool ((x8 && (decide (t11.Vid > 0))) && (decide (t11.Vid < 4095)))), (50, .bool ((x8 && (decide (t11.Vid > 0))) && (decide (t11.Vid < 4095)))), (54, .bool (((x8 && (decide (t11.Vid > 0))) && (decide (t11.Vid < 4095))) && (decide (t11.Vni ≥ 0)))), (55, .bool (((x8 && (decide (t11.Vid > 0))) && (decide (t11.Vid < 4095))) && (decide (t11.Vni ≥ 0)))), (59, .bool ((((x8 && (decide (t11.Vid > 0))) && (decide (t11.Vid < 4095))) && (decide (t11.Vni ≥ 0))) && (decide (t11.Vni < 16777216)))), (60, .int .i64 x15), (61, .int .i64 x9), (62, .bool (decide (x15 < x9))), (86, .int .i64 x28), (87, .pointer (some ⟨b13, 2, none⟩)), (88, slcV (A00.s (Int.toNat x9)) t11.Peers.length), (89, .int .i64 (t11.Peers.length : Int)), (90, .bool (decide (x28 < (t11.Peers.length : Int)))), (93, .bool x27), (94, .bool x33), (101, .bool x34), (102, .bool x38), (110, .bool x39)]
        refine QL.rn 1 [] [(111, .bool x39)] ?_
        refine QL.join (σ := Bool × Bool) 10 (fun st => gangwayref21_Check.k5 x28 (gangwayref21_Check.l8 t11 k a0 x9 (gangwayref21_Check.l9 a1 k a0 n) n1) st.1 st.2 = some r) (fun st => [(0, .int .u32 a0), (1, slcV A00 a1.length), (4, .int .i64 x1), (6, .bool x27), (7, .int .i64 x9), (8, .pointer (some ⟨b13, 0, none⟩)), (9, .int .i64 x15), (10, .int .i64 x28), (29, .int .i64 x9), (30, slcV A00 a1.length), (31, .int .i64 (a1.length : Int)), (32, .bool (decide (x9 < (a1.length : Int)))), (35, slcV A00 a1.length), (36, .int .i64 x9), (37, ptrV A00 (Int.toNat x9 * 3)), (38, .agg #[.int .i64 t11.Vid, .int .i64 t11.Vni, slcV (A00.s (Int.toNat x9)) t11.Peers.length]), (39, .bool x8), (40, .bool x8), (44, .bool (x8 && (decide (t11.Vid > 0)))), (45, .bool (x8 && (decide (t11.Vid > 0)))), (49, .bool ((x8 && (decide (t11.Vid > 0))) && (decide (t11.Vid < 4095)))), (50, .bool ((x8 && (decide (t11.Vid > 0))) && (decide (t11.Vid < 4095)))), (54, .bool (((x8 && (decide (t11.Vid > 0))) && (decide (t11.Vid < 4095))) && (decide (t11.Vni ≥ 0)))), (55, .bool (((x8 && (decide (t11.Vid > 0))) && (decide (t11.Vid < 4095))) && (decide (t11.Vni ≥ 0)))), (59, .bool ((((x8 && (decide (t11.Vid > 0))) && (decide (t11.Vid < 4095))) && (decide (t11.Vni ≥ 0))) && (decide (t11.Vni < 16777216)))), (60, .int .i64 x15), (61, .int .i64 x9), (62, .bool (decide (x15 < x9))), (86, .int .i64 x28), (87, .pointer (some ⟨b13, 2, none⟩)), (88, slcV (A00.s (Int.toNat x9)) t11.Peers.length), (89, .int .i64 (t11.Peers.length : Int)), (90, .bool (decide (x28 < (t11.Peers.length : Int)))), (93, .bool x27), (94, .bool x33), (101, .bool x34), (102, .bool x38), (110, .bool x39), (111, .bool st.1), (121, .bool st.2)]) (fun st hM => ?_) (fun K5 => ?_)
        ·
         obtain ⟨x45, x46⟩ := st
         replace hM : gangwayref21_Check.k5 x28 (gangwayref21_Check.l8 t11 k a0 x9 (gangwayref21_Check.l9 a1 k a0 n) n1) x45 x46 = some r := hM
         unfold gangwayref21_Check.k5 at hM
         show QL _ _ _ _ _ _ [(0, .int .u32 a0), (1, slcV A00 a1.length), (4, .int .i64 x1), (6, .bool x27), (7, .int .i64 x9), (8, .pointer (some ⟨b13, 0, none⟩)), (9, .int .i64 x15), (10, .int .i64 x28), (29, .int .i64 x9), (30, slcV A00 a1.length), (31, .int .i64 (a1.length : Int)), (32, .bool (decide (x9 < (a1.length : Int)))), (35, slcV A00 a1.length), (36, .int .i64 x9), (37, ptrV A00 (Int.toNat x9 * 3)), (38, .agg #[.int .i64 t11.Vid, .int .i64 t11.Vni, slcV (A00.s (Int.toNat x9)) t11.Peers.length]), (39, .bool x8), (40, .bool x8), (44, .bool (x8 && (decide (t11.Vid > 0)))), (45, .bool (x8 && (decide (t11.Vid > 0)))), (49, .bool ((x8 && (decide (t11.Vid > 0))) && (decide (t11.Vid < 4095)))), (50, .bool ((x8 && (decide (t11.Vid > 0))) && (decide (t11.Vid < 4095)))), (54, .bool (((x8 && (decide (t11.Vid > 0))) && (decide (t11.Vid < 4095))) && (decide (t11.Vni ≥ 0)))), (55, .bool (((x8 && (decide (t11.Vid > 0))) && (decide (t11.Vid < 4095))) && (decide (t11.Vni ≥ 0)))), (59, .bool ((((x8 && (decide (t11.Vid > 0))) && (decide (t11.Vid < 4095))) && (decide (t11.Vni ≥ 0))) && (decide (t11.Vni < 16777216)))), (60, .int .i64 x15), (61, .int .i64 x9), (62, .bool (decide (x15 < x9))), (86, .int .i64 x28), (87, .pointer (some ⟨b13, 2, none⟩)), (88, slcV (A00.s (Int.toNat x9)) t11.Peers.length), (89, .int .i64 (t11.Peers.length : Int)), (90, .bool (decide (x28 < (t11.Peers.length : Int)))), (93, .bool x27), (94, .bool x33), (101, .bool x34), (102, .bool x38), (110, .bool x39), (111, .bool x45), (121, .bool x46)]
         refine QL.rn 1 [] [(6, .bool x46)] ?_
         refine QL.done ?_
         refine WP.leave (WP.rn [] [(10, .int .i64 (i64 (x28 + 1))), (91, .int .i64 x28), (92, .int .i64 (i64 (x28 + 1)))] ?_)
         exact WP.again' [0, 1, 4, 6, 7, 8, 9, 10, 29, 30, 31, 32, 35, 36, 37, 38, 39, 40, 44, 45, 49, 50, 54, 55, 59, 60, 61, 62] (x46, i64 (x28 + 1)) hM (by kernel_rfl) (fun _ h => (h.pick [0] (by kernel_rfl)).lessF [0, 1] (by kernel_rfl))
        ·
         refine QL.sp 111 x39 (fun c40 => ?_) (fun c40 => ?_)
         ·replace hM := cond_t hM c40
          refine QL.rn 5 [0, 0] [(112, .pointer (some ⟨b13, 2, none⟩)), (113, slcV (A00.s (Int.toNat x9)) t11.Peers.length), (114, .pointer (some ⟨b13, 2, none⟩)), (115, slcV (A00.s (Int.toNat x9)) t11.Peers.length), (116, .int .i64 x28)] ?_
          obtain ⟨t41, h42, hM⟩ := bind_some hM
          refine QL.valF (φ := Row 1 (pl (encI .u32)) noK (A00.s (Int.toNat x9)) t11.Peers) (fact_at 0 rfl) (fun w hR => run_indexRowF (A := (A00.s (Int.toNat x9))) (xs := t11.Peers) (i := x28) (k := .i64) (e := 49) (m := 1) (by kernel_rfl) (by kernel_rfl) h42 (by kernel_rfl) (by kernel_rfl) hR) (by kernel_rfl) (by kernel_rfl) rfl ?_
          refine QL.valF (φ := Row 1 (pl (encI .u32)) noK (A00.s (Int.toNat x9)) t11.Peers) (fact_at 0 rfl) (fun w hR => run_loadRowF (A := (A00.s (Int.toNat x9))) (xs := t11.Peers) (i := x28) (j := 0) (v := .int .u32 t41) h42 (fun _ => by kernel_rfl) (by kernel_rfl) (by kernel_rfl) hR) (by kernel_rfl) (by kernel_rfl) rfl ?_
          obtain ⟨r43, h44, hM⟩ := bind_some hM
          refine QL.callP [] [] (gangwayref21_often_calls k (A00.s (Int.toNat x9)) t11.Peers t41 _ h44) (sub_pick [0] (by kernel_rfl)) (by kernel_rfl) (by kernel_rfl) rfl ?_
          refine QL.rn 2 [] [(120, .bool (r43 == 1)), (121, .bool (r43 == 1))] ?_
          exact QL.sub [0, 1, 4, 6, 7, 8, 9, 10, 29, 30, 31, 32, 35, 36, 37, 38, 39, 40, 44, 45, 49, 50, 54, 55, 59, 60, 61, 62, 86, 87, 88, 89, 90, 93, 94, 101, 102, 110, 111, 121] (by kernel_rfl) (K5 (true, (r43 == 1)) hM)
         ·replace hM := cond_f hM c40
          refine QL.rn 10 [] [(112, .tuple #[]), (113, .tuple #[]), (114, .tuple #[]), (115, .tuple #[]), (116, .tuple #[]), (117, .tuple #[]), (118, .tuple #[]), (119, .tuple #[]), (120, .tuple #[]), (121, .bool false)] ?_
          exact QL.sub [0, 1, 4, 6, 7, 8, 9, 10, 29, 30, 31, 32, 35, 36, 37, 38, 39, 40, 44, 45, 49, 50, 54, 55, 59, 60, 61, 62, 86, 87, 88, 89, 90, 93, 94, 101, 102, 110, 111, 121] (by kernel_rfl) (K5 (false, false) hM)
       ·
        refine QL.sp 102 x34 (fun c35 => ?_) (fun c35 => ?_)
        ·replace hM := cond_t hM c35
         refine QL.rn 3 [0] [(103, .pointer (some ⟨b13, 2, none⟩)), (104, slcV (A00.s (Int.toNat x9)) t11.Peers.length), (105, .int .i64 x28)] ?_
         obtain ⟨t36, h37, hM⟩ := bind_some hM
         refine QL.valF (φ := Row 1 (pl (encI .u32)) noK (A00.s (Int.toNat x9)) t11.Peers) (fact_at 0 rfl) (fun w hR => run_indexRowF (A := (A00.s (Int.toNat x9))) (xs := t11.Peers) (i := x28) (k := .i64) (e := 49) (m := 1) (by kernel_rfl) (by kernel_rfl) h37 (by kernel_rfl) (by kernel_rfl) hR) (by kernel_rfl) (by kernel_rfl) rfl ?_
         refine QL.valF (φ := Row 1 (pl (encI .u32)) noK (A00.s (Int.toNat x9)) t11.Peers) (fact_at 0 rfl) (fun w hR => run_loadRowF (A := (A00.s (Int.toNat x9))) (xs := t11.Peers) (i := x28) (j := 0) (v := .int .u32 t36) h37 (fun _ => by kernel_rfl) (by kernel_rfl) (by kernel_rfl) hR) (by kernel_rfl) (by kernel_rfl) rfl ?_
         refine QL.rn 3 [] [(108, .int .u32 a0), (109, .bool (t36 != a0)), (110, .bool (t36 != a0))] ?_
         exact QL.sub [0, 1, 4, 6, 7, 8, 9, 10, 29, 30, 31, 32, 35, 36, 37, 38, 39, 40, 44, 45, 49, 50, 54, 55, 59, 60, 61, 62, 86, 87, 88, 89, 90, 93, 94, 101, 102, 110] (by kernel_rfl) (K6 (true, (t36 != a0)) hM)
        ·replace hM := cond_f hM c35
         refine QL.rn 8 [] [(103, .tuple #[]), (104, .tuple #[]), (105, .tuple #[]), (106, .tuple #[]), (107, .tuple #[]), (108, .tuple #[]), (109, .tuple #[]), (110, .bool false)] ?_
         exact QL.sub [0, 1, 4, 6, 7, 8, 9, 10, 29, 30, 31, 32, 35, 36, 37, 38, 39, 40, 44, 45, 49, 50, 54, 55, 59, 60, 61, 62, 86, 87, 88, 89, 90, 93, 94, 101, 102, 110] (by kernel_rfl) (K6 (false, false) hM)
      ·
       refine QL.sp 94 x27 (fun c30 => ?_) (fun c30 => ?_)
       ·replace hM := cond_t hM c30
        refine QL.rn 3 [0] [(95, .pointer (some ⟨b13, 2, none⟩)), (96, slcV (A00.s (Int.toNat x9)) t11.Peers.length), (97, .int .i64 x28)] ?_
        obtain ⟨t31, h32, hM⟩ := bind_some hM
        refine QL.valF (φ := Row 1 (pl (encI .u32)) noK (A00.s (Int.toNat x9)) t11.Peers) (fact_at 0 rfl) (fun w hR => run_indexRowF (A := (A00.s (Int.toNat x9))) (xs := t11.Peers) (i := x28) (k := .i64) (e := 49) (m := 1) (by kernel_rfl) (by kernel_rfl) h32 (by kernel_rfl) (by kernel_rfl) hR) (by kernel_rfl) (by kernel_rfl) rfl ?_
        refine QL.valF (φ := Row 1 (pl (encI .u32)) noK (A00.s (Int.toNat x9)) t11.Peers) (fact_at 0 rfl) (fun w hR => run_loadRowF (A := (A00.s (Int.toNat x9))) (xs := t11.Peers) (i := x28) (j := 0) (v := .int .u32 t31) h32 (fun _ => by kernel_rfl) (by kernel_rfl) (by kernel_rfl) hR) (by kernel_rfl) (by kernel_rfl) rfl ?_
        refine QL.rn 2 [] [(100, .bool (decide (t31 > 0))), (101, .bool (decide (t31 > 0)))] ?_
        exact QL.sub [0, 1, 4, 6, 7, 8, 9, 10, 29, 30, 31, 32, 35, 36, 37, 38, 39, 40, 44, 45, 49, 50, 54, 55, 59, 60, 61, 62, 86, 87, 88, 89, 90, 93, 94, 101] (by kernel_rfl) (K7 (true, decide (t31 > 0)) hM)
       ·replace hM := cond_f hM c30
        refine QL.rn 7 [] [(95, .tuple #[]), (96, .tuple #[]), (97, .tuple #[]), (98, .tuple #[]), (99, .tuple #[]), (100, .tuple #[]), (101, .bool false)] ?_
        exact QL.sub [0, 1, 4, 6, 7, 8, 9, 10, 29, 30, 31, 32, 35, 36, 37, 38, 39, 40, 44, 45, 49, 50, 54, 55, 59, 60, 61, 62, 86, 87, 88, 89, 90, 93, 94, 101] (by kernel_rfl) (K7 (false, false) hM)
     ·replace hM := cond_f hM c29
      refine WP.exit rfl (WP.leave (WP.rn [] [(7, .int .i64 (i64 (x9 + 1))), (33, .int .i64 x9), (34, .int .i64 (i64 (x9 + 1)))] ?_))
      exact WP.again' [0, 1, 4, 6, 7] (x27, i64 (x9 + 1)) hM (by kernel_rfl) (fun _ h => (h.pick [] (by kernel_rfl)).lessF [1] (by kernel_rfl))
   ·replace hM := cond_f hM c10
    refine WP.exit rfl (WP.seq (WP.seq (WP.rn [] [(122, .bool x8)] ?_)))
    refine WP.cond x8 rfl rfl (fun c47 => ?_) (fun c47 => ?_)
    ·replace hM := cond_t hM c47
     refine WP.seq (WP.rn [] [(4, .int .i64 0)] ?_)
     obtain rfl := Option.some.inj hM
     exact WP.retF [] [] [0]
    ·replace hM := cond_f hM c47
     refine WP.skip (WP.seq (WP.rn [] [(4, .int .i64 210)] ?_))
     obtain rfl := Option.some.inj hM
     exact WP.retF [] [] [0]
end Go.Proofs.YtbbekdmndifkpaaGreatDoor
