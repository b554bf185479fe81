/- A part of the proof. -/
import Derived.Test.YteennilbmmlikaaGreatDoorYAny3
import Derived.Test.YteennilbmmlikaaGreatDoorProg
import Derived.KernelRfl
import Derived.Test.YteennilbmmlikaaGreatDoorYLoop
import Derived.Test.YteennilbmmlikaaGreatDoorYFrz
namespace Go.Y
set_option maxRecDepth 1000000
set_option maxHeartbeats 0
def zDfa:List V:=List.replicate 256 (.i .i64 0)++ [.sl none 0 (some 0) 0, .sl none 0 (some 0) 0]
def Tryz.tys:List (Option TI):= [
  none,
  some ⟨1,8, .func,[.nilfn]⟩,
  some ⟨1,8, .int .i64,[.i .i64 0]⟩,
  some ⟨1,8, .int .i64,[.i .i64 0]⟩,
  some ⟨1,1, .bool,[.b false]⟩,
  some ⟨1,1, .int .u8,[.i .u8 0]⟩,
  some ⟨1,1, .int .u8,[.i .u8 0]⟩,
  some ⟨4,24, .struct [(0,2),(1,3),(2,4),(3,6)],[.i .i64 0, .i .i64 0, .b false, .i .u8 0]⟩,
  some ⟨4,24, .struct [(0,2),(1,3),(2,4),(3,6)],[.i .i64 0, .i .i64 0, .b false, .i .u8 0]⟩,
  some ⟨1,16, .str,[.s []]⟩,
  some ⟨1,16, .str,[.s []]⟩,
  some ⟨1,16, .str,[.s []]⟩,
  some ⟨1,8, .int .u64,[.i .u64 0]⟩,
  none,
  none,
  some ⟨1,8, .ptr 273,[.p none]⟩,
  some ⟨1,8, .ptr 276,[.p none]⟩,
  some ⟨1,8, .ptr 283,[.p none]⟩,
  none,
  none,
  some ⟨1,16, .iface,[.nilifc]⟩,
  some ⟨1,4, .int .i32,[.i .i32 0]⟩,
  some ⟨1,8, .func,[.nilfn]⟩,
  some ⟨1,8, .int .u64,[.i .u64 0]⟩,
  some ⟨4,32, .arr 4 23,[.i .u64 0, .i .u64 0, .i .u64 0, .i .u64 0]⟩,
  some ⟨4,32, .arr 4 23,[.i .u64 0, .i .u64 0, .i .u64 0, .i .u64 0]⟩,
  some ⟨1,24, .slice 28,[.sl none 0 (some 0) 0]⟩,
  some ⟨9,88, .struct [(0,3),(1,25),(5,26),(6,3),(7,3),(8,3)],[.i .i64 0, .i .u64 0, .i .u64 0, .i .u64 0, .i .u64 0, .sl none 0 (some 0) 0, .i .i64 0, .i .i64 0, .i .i64 0]⟩,
  some ⟨9,88, .struct [(0,3),(1,25),(5,26),(6,3),(7,3),(8,3)],[.i .i64 0, .i .u64 0, .i .u64 0, .i .u64 0, .i .u64 0, .sl none 0 (some 0) 0, .i .i64 0, .i .i64 0, .i .i64 0]⟩,
  none,
  some ⟨1,8, .func,[.nilfn]⟩,
  some ⟨1,24, .slice 25,[.sl none 0 (some 0) 0]⟩,
  some ⟨1,24, .slice 3,[.sl none 0 (some 0) 0]⟩,
  some ⟨1,24, .slice 32,[.sl none 0 (some 0) 0]⟩,
  some ⟨5,104, .struct [(0,31),(1,32),(2,32),(3,33),(4,4)],[.sl none 0 (some 0) 0, .sl none 0 (some 0) 0, .sl none 0 (some 0) 0, .sl none 0 (some 0) 0, .b false]⟩,
  some ⟨5,104, .struct [(0,31),(1,32),(2,32),(3,33),(4,4)],[.sl none 0 (some 0) 0, .sl none 0 (some 0) 0, .sl none 0 (some 0) 0, .sl none 0 (some 0) 0, .b false]⟩,
  some ⟨1,8, .int .i64,[.i .i64 0]⟩,
  none,
  some ⟨1,8, .func,[.nilfn]⟩,
  some ⟨1,8, .func,[.nilfn]⟩,
  none,
  some ⟨1,8, .func,[.nilfn]⟩,
  some ⟨1,8, .func,[.nilfn]⟩,
  some ⟨2,24, .struct [(0,3),(1,9)],[.i .i64 0, .s []]⟩,
  some ⟨2,24, .struct [(0,3),(1,9)],[.i .i64 0, .s []]⟩,
  none,
  some ⟨1,8, .func,[.nilfn]⟩,
  some ⟨2,16, .struct [(0,3),(1,3)],[.i .i64 0, .i .i64 0]⟩,
  some ⟨2,16, .struct [(0,3),(1,3)],[.i .i64 0, .i .i64 0]⟩,
  some ⟨20,160, .arr 10 48,List.replicate 20 (.i .i64 0)⟩,
  some ⟨20,160, .struct [(0,49)],List.replicate 20 (.i .i64 0)⟩,
  some ⟨20,160, .struct [(0,49)],List.replicate 20 (.i .i64 0)⟩,
  none,
  some ⟨1,8, .func,[.nilfn]⟩,
  some ⟨1,8, .func,[.nilfn]⟩,
  some ⟨1,8, .func,[.nilfn]⟩,
  some ⟨1,24, .slice 59,[.sl none 0 (some 0) 0]⟩,
  some ⟨1,24, .slice 155,[.sl none 0 (some 0) 0]⟩,
  some ⟨3,40, .struct [(0,3),(1,5),(2,57)],[.i .i64 0, .i .u8 0, .sl none 0 (some 0) 0]⟩,
  some ⟨3,40, .struct [(0,3),(1,5),(2,57)],[.i .i64 0, .i .u8 0, .sl none 0 (some 0) 0]⟩,
  none,
  some ⟨1,8, .func,[.nilfn]⟩,
  none,
  some ⟨1,8, .func,[.nilfn]⟩,
  some ⟨1,8, .func,[.nilfn]⟩,
  some ⟨1,8, .func,[.nilfn]⟩,
  some ⟨1,8, .func,[.nilfn]⟩,
  some ⟨1,8, .func,[.nilfn]⟩,
  some ⟨1,8, .func,[.nilfn]⟩,
  some ⟨1,8, .func,[.nilfn]⟩,
  some ⟨1,8, .func,[.nilfn]⟩,
  none,
  some ⟨1,8, .func,[.nilfn]⟩,
  some ⟨1,8, .func,[.nilfn]⟩,
  some ⟨1,8, .func,[.nilfn]⟩,
  some ⟨1,8, .func,[.nilfn]⟩,
  some ⟨1,8, .ptr 78,[.p none]⟩,
  some ⟨4,40, .struct [(0,9),(1,3),(2,3),(3,3)],[.s [], .i .i64 0, .i .i64 0, .i .i64 0]⟩,
  some ⟨4,40, .struct [(0,9),(1,3),(2,3),(3,3)],[.s [], .i .i64 0, .i .i64 0, .i .i64 0]⟩,
  some ⟨1,8, .func,[.nilfn]⟩,
  some ⟨1,8, .func,[.nilfn]⟩,
  some ⟨1,8, .func,[.nilfn]⟩,
  some ⟨1,8, .func,[.nilfn]⟩,
  some ⟨1,8, .ptr 85,[.p none]⟩,
  some ⟨5,104, .struct [(0,35)],[.sl none 0 (some 0) 0, .sl none 0 (some 0) 0, .sl none 0 (some 0) 0, .sl none 0 (some 0) 0, .b false]⟩,
  some ⟨5,104, .struct [(0,35)],[.sl none 0 (some 0) 0, .sl none 0 (some 0) 0, .sl none 0 (some 0) 0, .sl none 0 (some 0) 0, .b false]⟩,
  some ⟨3,56, .struct [(0,32),(1,32),(2,4)],[.sl none 0 (some 0) 0, .sl none 0 (some 0) 0, .b false]⟩,
  some ⟨3,56, .struct [(0,32),(1,32),(2,4)],[.sl none 0 (some 0) 0, .sl none 0 (some 0) 0, .b false]⟩,
  some ⟨1,8, .func,[.nilfn]⟩,
  some ⟨1,8, .func,[.nilfn]⟩,
  some ⟨1,8, .func,[.nilfn]⟩,
  some ⟨1,8, .func,[.nilfn]⟩,
  some ⟨1,8, .func,[.nilfn]⟩,
  some ⟨18,176, .arr 2 28,[.i .i64 0, .i .u64 0, .i .u64 0, .i .u64 0, .i .u64 0, .sl none 0 (some 0) 0, .i .i64 0, .i .i64 0, .i .i64 0, .i .i64 0, .i .u64 0, .i .u64 0, .i .u64 0, .i .u64 0, .sl none 0 (some 0) 0, .i .i64 0, .i .i64 0, .i .i64 0]⟩,
  some ⟨10,208, .arr 2 35,[.sl none 0 (some 0) 0, .sl none 0 (some 0) 0, .sl none 0 (some 0) 0, .sl none 0 (some 0) 0, .b false, .sl none 0 (some 0) 0, .sl none 0 (some 0) 0, .sl none 0 (some 0) 0, .sl none 0 (some 0) 0, .b false]⟩,
  some ⟨256,2048, .arr 256 3,List.replicate 256 (.i .i64 0)⟩,
  some ⟨1,24, .slice 4,[.sl none 0 (some 0) 0]⟩,
  some ⟨258,2096, .struct [(0,95),(256,33),(257,96)],zDfa⟩,
  some ⟨258,2096, .struct [(0,95),(256,33),(257,96)],zDfa⟩,
  some ⟨516,4192, .arr 2 98,zDfa++zDfa⟩,
  some ⟨1,24, .slice 44,[.sl none 0 (some 0) 0]⟩,
  none,
  some ⟨1,8, .func,[.nilfn]⟩,
  none,
  some ⟨1,8, .func,[.nilfn]⟩,
  some ⟨1,8, .func,[.nilfn]⟩,
  some ⟨1,8, .func,[.nilfn]⟩,
  some ⟨1,8, .func,[.nilfn]⟩,
  some ⟨1,8, .func,[.nilfn]⟩,
  some ⟨1,8, .func,[.nilfn]⟩,
  some ⟨1,8, .func,[.nilfn]⟩,
  some ⟨1,8, .func,[.nilfn]⟩,
  some ⟨1,8, .func,[.nilfn]⟩,
  some ⟨1,8, .func,[.nilfn]⟩,
  none,
  some ⟨1,8, .func,[.nilfn]⟩,
  none,
  some ⟨1,8, .func,[.nilfn]⟩,
  some ⟨1,8, .func,[.nilfn]⟩,
  some ⟨1,8, .func,[.nilfn]⟩,
  none,
  some ⟨1,8, .func,[.nilfn]⟩,
  some ⟨1,8, .func,[.nilfn]⟩,
  some ⟨1,8, .func,[.nilfn]⟩,
  some ⟨1,8, .func,[.nilfn]⟩,
  some ⟨1,8, .func,[.nilfn]⟩,
  some ⟨1,8, .func,[.nilfn]⟩,
  none,
  some ⟨1,8, .func,[.nilfn]⟩,
  some ⟨1,8, .func,[.nilfn]⟩,
  some ⟨1,8, .func,[.nilfn]⟩,
  some ⟨1,8, .func,[.nilfn]⟩,
  some ⟨1,8, .int .u64,[.i .u64 0]⟩,
  some ⟨1,8, .func,[.nilfn]⟩,
  some ⟨1,8, .func,[.nilfn]⟩,
  some ⟨1,8, .func,[.nilfn]⟩,
  some ⟨1,8, .func,[.nilfn]⟩,
  some ⟨1,8, .func,[.nilfn]⟩,
  some ⟨1,24, .slice 5,[.sl none 0 (some 0) 0]⟩,
  none,
  some ⟨1,8, .func,[.nilfn]⟩,
  some ⟨1,8, .func,[.nilfn]⟩,
  some ⟨1,8, .func,[.nilfn]⟩,
  some ⟨1,8, .func,[.nilfn]⟩,
  some ⟨1,8, .func,[.nilfn]⟩,
  some ⟨1,8, .func,[.nilfn]⟩,
  some ⟨1,8, .ptr 148,[.p none]⟩,
  some ⟨21,176, .struct [(0,9),(1,49)],[.s [], .i .i64 0, .i .i64 0, .i .i64 0, .i .i64 0, .i .i64 0, .i .i64 0, .i .i64 0, .i .i64 0, .i .i64 0, .i .i64 0, .i .i64 0, .i .i64 0, .i .i64 0, .i .i64 0, .i .i64 0, .i .i64 0, .i .i64 0, .i .i64 0, .i .i64 0, .i .i64 0]⟩,
  some ⟨21,176, .struct [(0,9),(1,49)],[.s [], .i .i64 0, .i .i64 0, .i .i64 0, .i .i64 0, .i .i64 0, .i .i64 0, .i .i64 0, .i .i64 0, .i .i64 0, .i .i64 0, .i .i64 0, .i .i64 0, .i .i64 0, .i .i64 0, .i .i64 0, .i .i64 0, .i .i64 0, .i .i64 0, .i .i64 0, .i .i64 0]⟩,
  some ⟨1,8, .func,[.nilfn]⟩,
  some ⟨1,8, .func,[.nilfn]⟩,
  none,
  some ⟨1,8, .func,[.nilfn]⟩,
  some ⟨1,8, .func,[.nilfn]⟩,
  some ⟨2,2, .struct [(0,5),(1,5)],[.i .u8 0, .i .u8 0]⟩,
  some ⟨2,2, .struct [(0,5),(1,5)],[.i .u8 0, .i .u8 0]⟩,
  none,
  some ⟨1,8, .func,[.nilfn]⟩,
  some ⟨1,8, .func,[.nilfn]⟩,
  some ⟨1,8, .func,[.nilfn]⟩,
  some ⟨1,8, .func,[.nilfn]⟩,
  some ⟨1,8, .func,[.nilfn]⟩,
  some ⟨1,8, .ptr 211,[.p none]⟩,
  none,
  some ⟨1,8, .func,[.nilfn]⟩,
  some ⟨1,8, .ptr 167,[.p none]⟩,
  some ⟨3,32, .struct [(0,9),(1,3),(2,4)],[.s [], .i .i64 0, .b false]⟩,
  some ⟨3,32, .struct [(0,9),(1,3),(2,4)],[.s [], .i .i64 0, .b false]⟩,
  some ⟨1,8, .func,[.nilfn]⟩,
  some ⟨1,8, .ptr 171,[.p none]⟩,
  some ⟨4,40, .struct [(0,9),(1,3),(2,3),(3,36)],[.s [], .i .i64 0, .i .i64 0, .i .i64 0]⟩,
  some ⟨4,40, .struct [(0,9),(1,3),(2,3),(3,36)],[.s [], .i .i64 0, .i .i64 0, .i .i64 0]⟩,
  some ⟨1,8, .func,[.nilfn]⟩,
  some ⟨1,8, .func,[.nilfn]⟩,
  some ⟨1,8, .func,[.nilfn]⟩,
  none,
  some ⟨1,8, .func,[.nilfn]⟩,
  some ⟨1,8, .struct [(0,3)],[.i .i64 0]⟩,
  some ⟨1,8, .struct [(0,3)],[.i .i64 0]⟩,
  some ⟨1,8, .func,[.nilfn]⟩,
  some ⟨1,8, .ptr 182,[.p none]⟩,
  some ⟨2,32, .struct [(0,180),(1,138)],[.p none, .sl none 0 (some 0) 0]⟩,
  some ⟨2,32, .struct [(0,180),(1,138)],[.p none, .sl none 0 (some 0) 0]⟩,
  some ⟨1,8, .func,[.nilfn]⟩,
  some ⟨1,8, .func,[.nilfn]⟩,
  some ⟨1,8, .func,[.nilfn]⟩,
  some ⟨1,8, .func,[.nilfn]⟩,
  some ⟨1,8, .func,[.nilfn]⟩,
  some ⟨1,8, .func,[.nilfn]⟩,
  some ⟨1,8, .func,[.nilfn]⟩,
  some ⟨1,8, .func,[.nilfn]⟩,
  some ⟨1,8, .func,[.nilfn]⟩,
  some ⟨1,8, .func,[.nilfn]⟩,
  some ⟨1,8, .func,[.nilfn]⟩,
  some ⟨1,8, .func,[.nilfn]⟩,
  some ⟨1,8, .map 9 3,[.mp none]⟩,
  some ⟨1,16, .iface,[.nilifc]⟩,
  some ⟨1,16, .iface,[.nilifc]⟩,
  some ⟨1,8, .func,[.nilfn]⟩,
  none,
  some ⟨1,8, .func,[.nilfn]⟩,
  some ⟨2,16, .arr 2 3,[.i .i64 0, .i .i64 0]⟩,
  some ⟨1,8, .map 201 3,[.mp none]⟩,
  some ⟨4,32, .struct [(0,3),(1,3),(2,3),(3,5)],[.i .i64 0, .i .i64 0, .i .i64 0, .i .u8 0]⟩,
  some ⟨4,32, .struct [(0,3),(1,3),(2,3),(3,5)],[.i .i64 0, .i .i64 0, .i .i64 0, .i .u8 0]⟩,
  some ⟨1,24, .slice 204,[.sl none 0 (some 0) 0]⟩,
  some ⟨1,8, .func,[.nilfn]⟩,
  some ⟨1,8, .func,[.nilfn]⟩,
  some ⟨1,8, .func,[.nilfn]⟩,
  some ⟨1,8, .func,[.nilfn]⟩,
  some ⟨12,136, .struct [(0,44),(2,56),(3,28)],[.i .i64 0, .s [], .sl none 0 (some 0) 0, .i .i64 0, .i .u64 0, .i .u64 0, .i .u64 0, .i .u64 0, .sl none 0 (some 0) 0, .i .i64 0, .i .i64 0, .i .i64 0]⟩,
  some ⟨12,136, .struct [(0,44),(2,56),(3,28)],[.i .i64 0, .s [], .sl none 0 (some 0) 0, .i .i64 0, .i .u64 0, .i .u64 0, .i .u64 0, .i .u64 0, .sl none 0 (some 0) 0, .i .i64 0, .i .i64 0, .i .i64 0]⟩,
  some ⟨1,8, .func,[.nilfn]⟩,
  some ⟨1,8, .func,[.nilfn]⟩,
  some ⟨1,8, .func,[.nilfn]⟩,
  some ⟨1,8, .func,[.nilfn]⟩,
  some ⟨1,8, .func,[.nilfn]⟩,
  none,
  some ⟨1,8, .func,[.nilfn]⟩,
  some ⟨1,8, .ptr 178,[.p none]⟩,
  some ⟨1,8, .func,[.nilfn]⟩,
  some ⟨1,8, .func,[.nilfn]⟩,
  none,
  some ⟨1,8, .func,[.nilfn]⟩,
  some ⟨1,8, .ptr 5,[.p none]⟩,
  some ⟨1,8, .func,[.nilfn]⟩,
  some ⟨1,8, .func,[.nilfn]⟩,
  some ⟨1,8, .int .i64,[.i .i64 0]⟩,
  none,
  some ⟨1,8, .func,[.nilfn]⟩,
  some ⟨1,8, .func,[.nilfn]⟩,
  some ⟨1,8, .func,[.nilfn]⟩,
  some ⟨1,8, .func,[.nilfn]⟩,
  some ⟨1,8, .func,[.nilfn]⟩,
  some ⟨1,8, .func,[.nilfn]⟩,
  some ⟨1,4, .int .u32,[.i .u32 0]⟩,
  some ⟨1,8, .func,[.nilfn]⟩,
  some ⟨1,8, .func,[.nilfn]⟩,
  some ⟨1,8, .func,[.nilfn]⟩,
  some ⟨1,8, .func,[.nilfn]⟩,
  some ⟨1,8, .func,[.nilfn]⟩,
  some ⟨1,8, .func,[.nilfn]⟩,
  some ⟨1,8, .func,[.nilfn]⟩,
  some ⟨1,8, .func,[.nilfn]⟩,
  some ⟨1,8, .func,[.nilfn]⟩,
  some ⟨1,8, .func,[.nilfn]⟩,
  some ⟨1,8, .func,[.nilfn]⟩,
  some ⟨1,8, .func,[.nilfn]⟩,
  some ⟨1,8, .int .u64,[.i .u64 0]⟩,
  some ⟨1,8, .func,[.nilfn]⟩,
  some ⟨1,8, .func,[.nilfn]⟩,
  some ⟨1,8, .func,[.nilfn]⟩,
  some ⟨1,8, .ptr 3,[.p none]⟩,
  some ⟨1,8, .func,[.nilfn]⟩,
  none,
  some ⟨1,8, .func,[.nilfn]⟩,
  some ⟨1,8, .func,[.nilfn]⟩,
  some ⟨1,8, .ptr 248,[.p none]⟩,
  some ⟨1,8, .func,[.nilfn]⟩,
  some ⟨1,8, .func,[.nilfn]⟩,
  some ⟨1,8, .func,[.nilfn]⟩,
  some ⟨1,8, .func,[.nilfn]⟩,
  some ⟨1,8, .func,[.nilfn]⟩,
  some ⟨24,24, .arr 24 5,List.replicate 24 (.i .u8 0)⟩,
  some ⟨1,8, .func,[.nilfn]⟩,
  none,
  some ⟨1,8, .func,[.nilfn]⟩,
  some ⟨1,8, .func,[.nilfn]⟩,
  some ⟨20,160, .arr 20 23,List.replicate 20 (.i .u64 0)⟩,
  some ⟨65,65, .arr 65 5,List.replicate 65 (.i .u8 0)⟩,
  some ⟨32,32, .arr 32 5,List.replicate 32 (.i .u8 0)⟩,
  some ⟨64,64, .arr 64 5,List.replicate 64 (.i .u8 0)⟩,
  none,
  none,
  some ⟨0,0, .arr 0 16,[]⟩,
  none,
  none,
  some ⟨1,1, .int .u8,[.i .u8 0]⟩,
  some ⟨1,1, .int .u8,[.i .u8 0]⟩,
  some ⟨1,8, .func,[.nilfn]⟩,
  some ⟨1,4, .int .i32,[.i .i32 0]⟩,
  some ⟨1,4, .int .i32,[.i .i32 0]⟩,
  none,
  none,
  some ⟨1,8, .func,[.nilfn]⟩]
def Tryz.locs:List (List Nat):= [
  [],
  [],
  [],
  [7,10,14,16,18,20],
  [3,4,9,11],
  [5,8,9,11,13,15,17,19],
  [3,7,12,14,16],
  [1,4],
  [2,6],
  [2,4,7],
  [1,2,5,46],
  [2],
  [1],
  [3,4,8,9,10,12,13,16,17,20,21],
  [3,6,11,14],
  [1,6],
  [2],
  [2],
  [2],
  [2],
  [1,2,8,16],
  [1,2,8,16],
  [2,3],
  [4],
  [],
  [],
  [1],
  [4,9],
  [],
  [1],
  [1],
  [1,5],
  [3,4,5,8,9,11],
  [],
  [3],
  [3],
  [],
  [1],
  [2,4,6,8],
  [2,3],
  [3,8],
  [4,8],
  [1],
  [2,4],
  [],
  [1,2],
  [2],
  [],
  [],
  [5],
  [],
  [],
  [1],
  [0],
  [],
  [2,6],
  [1],
  [1,2,4],
  [0],
  [1],
  [1,2],
  [5],
  [],
  [2],
  [],
  [],
  [],
  [4],
  [],
  [1],
  [],
  [1],
  [],
  [4,5,6,7],
  [3,4,5,8],
  [],
  [],
  [],
  [],
  [],
  [1],
  [],
  [1,2],
  [2],
  [3],
  [],
  [],
  [],
  [2],
  [3,4,12,14],
  [],
  [4],
  [5,11],
  [1],
  [2,5],
  [4,10],
  [2],
  [],
  [1],
  [1],
  [0],
  [1],
  [0],
  [4],
  [1],
  [2],
  [4,9],
  [],
  [],
  [],
  [5],
  [],
  [4,5],
  [5],
  [3,5],
  [],
  [],
  [],
  [],
  [27],
  [],
  [],
  [],
  [],
  [2],
  [],
  [],
  [],
  [],
  [5,9],
  [],
  [],
  [1],
  [],
  [],
  [4],
  [],
  [],
  [4],
  [],
  [5],
  [4,7],
  [],
  [1],
  [10],
  [4],
  [],
  [1,6],
  [],
  [],
  [],
  [],
  [],
  [],
  [],
  [],
  [],
  [],
  [],
  [],
  [],
  [],
  [],
  [],
  [],
  [],
  [],
  [],
  [],
  [2,3],
  [4,5,6],
  [],
  [],
  [2],
  [],
  [1],
  [1,2],
  [],
  [],
  [],
  [],
  [],
  [],
  [],
  [],
  [],
  [],
  [4],
  [],
  [],
  [2],
  [],
  [],
  [4,6],
  [2,4],
  [2],
  [],
  [],
  [],
  [],
  [6],
  [],
  [],
  [],
  [],
  [],
  [],
  [],
  [],
  [],
  [],
  [],
  [],
  [],
  [],
  [],
  [],
  [],
  [],
  [],
  [],
  [],
  [],
  [],
  [],
  [],
  [],
  [],
  [],
  [],
  [],
  [],
  [],
  [],
  []]
def Tryz.modes:List Nat:= [2,2,2,2,2,2,2,2,1,1,1,2,2,2,2,2,1,1,1,1,1,1,2,2,1,2,2,4,0,2,2,2,4,1,1,1,2,2,1,2,1,2,2,4,1,1,4,1,2,1,2,1,2,1,1,1,2,1,1,2,1,1,1,2,2,0,3,4,3,2,0,2,1,4,4,0,0,0,3,2,2,2,1,1,1,0,3,2,2,0,2,4,0,2,1,2,2,0,2,2,1,2,1,2,0,4,4,3,0,5,1,2,4,0,0,3,0,0,6,0,2,2,0,2,2,2,0,2,2,0,0,0,2,0,4,4,3,0,4,2,1,4,0,2,0,0,0,2,2,6,2,2,2,2,2,2,2,2,2,2,2,2,0,2,2,3,2,0,3,0,4,2,2,4,0,1,2,2,2,2,2,0,0,0,2,0,0,4,0,2,2,2,0,4,4,1,0,2,2,0,2,2,2,2,1,2,2,2,2,2,2,2,2,2,2,2,2,2,2,0,0,0,0,0,0,0,0,0,2,2,2,2,2,2,2]
noncomputable def UY:YP:=⟨Go.Proofs.Tryz.prog,Tryz.tys,Tryz.locs,Tryz.modes,[182,5],[(185,1),(197,2)],[26,27,28]⟩
theorem Tryz.ext185: ∃fn,UY.P.funcs[185]? =some fn∧fn.body.isNone=true∧Extern.findNext fn=none∧Extern.find fn=some (extE 1):=⟨Go.Proofs.Tryz.f185,by kernel_rfl,by kernel_rfl,by kernel_rfl,by kernel_rfl⟩
theorem Tryz.ext197: ∃fn,UY.P.funcs[197]? =some fn∧fn.body.isNone=true∧Extern.findNext fn=none∧Extern.find fn=some (extE 2):=⟨Go.Proofs.Tryz.f197,by kernel_rfl,by kernel_rfl,by kernel_rfl,by kernel_rfl⟩
theorem Tryz.extok:Zx0 UY:=by
 intro p hp
 have hp':p∈([(185,1),(197,2)]:List (FuncId×Nat)):=hp
 simp only[List.mem_cons,List.not_mem_nil,or_false]at hp'
 rcases hp' with rfl|rfl
 ·exact Tryz.ext185
 ·exact Tryz.ext197
theorem UK:YOK UY:=Zc3 (by kernel_rfl) Tryz.extok
abbrev vVW(x0:List V)(y0:Nat)(x1:List V)(y1:Nat)(x2:List V)(y2:Nat)(x3:Int)(x4:Int)(x5:Int)(x6:List V)(y6:Nat)(x7:List UInt8)(x8:List UInt8)(x9:List UInt8)(x10:List UInt8)(x11:List UInt8)(x12:List UInt8)(x13:List UInt8)(x14:List UInt8)(x15:List UInt8)(x16:List UInt8)(x17:List V)(y17:Nat)(x18:Int)(x19:Int)(x20:Int)(x21:Int)(x22:Int)(x23:List V)(y23:Nat)(x24:List V)(y24:Nat)(x25:List V)(y25:Nat)(x26:List V)(y26:Nat)(x27:List V)(y27:Nat):List V:= [.ts x0 y0 none, .ts x1 y1 none, .ts x2 y2 none, .i .i64 x3, .i .i64 x4, .i .i64 x5, .ts x6 y6 none, .s x7, .s x8, .s x9, .s x10, .s x11, .s x12, .s x13, .s x14, .s x15, .s x16, .ts x17 y17 none, .i .i64 x18, .i .i64 x19, .i .i64 x20, .i .i64 x21, .i .i64 x22, .ts x23 y23 none, .ts x24 y24 none, .ts x25 y25 none, .ts x26 y26 none, .ts x27 y27 none]
abbrev vCF(x0:Int)(x1:List V)(y1:Nat)(x2:List UInt8)(x3:List UInt8)(x4:List UInt8)(x5:List UInt8)(x6:List UInt8)(x7:List UInt8)(x8:List UInt8)(x9:List UInt8)(x10:List UInt8)(x11:List UInt8)(x12:List V)(y12:Nat)(x13:Int)(x14:Int)(x15:Int)(x16:Int)(x17:Int)(x18:List V)(y18:Nat)(x19:List V)(y19:Nat)(x20:List V)(y20:Nat):List V:= [.i .i64 x0, .ts x1 y1 none, .s x2, .s x3, .s x4, .s x5, .s x6, .s x7, .s x8, .s x9, .s x10, .s x11, .ts x12 y12 none, .i .i64 x13, .i .i64 x14, .i .i64 x15, .i .i64 x16, .i .i64 x17, .ts x18 y18 none, .ts x19 y19 none, .ts x20 y20 none]
abbrev vSD(x0:Bool)(x1:Bool)(x2:Bool)(x3:Int)(x4:Int)(x5:List UInt8)(x6:List V)(y6:Nat)(z6:Option Nat)(x7:List UInt8)(x8:List V)(y8:Nat)(z8:Option Nat)(x9:List UInt8)(x10:List UInt8):List V:= [.b x0, .b x1, .b x2, .i .i64 x3, .i .i64 x4, .s x5, .ts x6 y6 z6, .s x7, .ts x8 y8 z8, .s x9, .s x10]
abbrev vMD(x0:List V)(y0:Nat)(x1:List V)(y1:Nat)(x2:List V)(y2:Nat)(x3:Int)(x4:Int):List V:= [.ts x0 y0 none, .ts x1 y1 none, .ts x2 y2 none, .i .i64 x3, .i .i64 x4]
end Go.Y
namespace Go.Y
open Go.Proofs
set_option maxRecDepth 1000000
set_option maxHeartbeats 0
theorem ZCc{a n0 h}(K):CP UY 118 (pre (flat (Za Tryz.f118))) (J a n0 none::Rp 35) h [0,3,9,10,11] K=(K .normal 36 [J a n0 none,I 0,J a n0 none,I (n0:Int),I 0] h):=by kernel_rfl
theorem ZCd{a n0 x3 b h}(K):CP UY 118 (flat (Zx (post (flat (Za Tryz.f118))))) (MZ 36 [0,3,9,10,11] [J a n0 none,I x3,J a n0 none,I (n0:Int),I b]) h [0,3,9,10,11] K=(If (ltI b n0) ((0<=b∧b<n0)∧ ∃c d e,Zo 1 (List.drop (b.toNat*1) a)=some [J c d e]∧If (ltI (IntKind.i64.wrap (x3+(d:Int))) (0:Int)) False (K .normal 36 [J a n0 none,I (IntKind.i64.wrap (x3+(d:Int))),J a n0 none,I (n0:Int),I (IntKind.i64.wrap (b+(1:Int)))] h)) (K (.exit 0) 36 [J a n0 none,I x3,J a n0 none,I (n0:Int),I b] h)):=by kernel_rfl
theorem ZCe{b n0 x3 h}(K):CP UY 118 (pre ((post (flat (Za Tryz.f118))).drop 1)) (MZ 36 [0,3] [J b n0 none,I x3]) h [6,25,26,27] K=(Con UY 149 [S0,I x3] h fun(v:V) (h':Heap)=> ∃a c d e,v=S a c d e∧K .normal 36 [S a c d e,J b n0 none,I (n0:Int),I 0] h'):=by kernel_rfl
theorem ZCf{d n0 a6 l6 c6 k6 b h}(K):CP UY 118 (flat (Zx (post ((post (flat (Za Tryz.f118))).drop 1)))) (MZ 36 [6,25,26,27] [S a6 l6 c6 k6,J d n0 none,I (n0:Int),I b]) h [6,25,26,27] K=(If (ltI b n0) ((0<=b∧b<n0)∧ ∃a c e,Zo 1 (List.drop (b.toNat*1) d)=some [J a c e]∧ ∃f g i j l,Zf UY h 32 32 (S a6 l6 c6 k6) (J a c e)=some (S f g i j,l)∧K .normal 36 [S f g i j,J d n0 none,I (n0:Int),I (IntKind.i64.wrap (b+(1:Int)))] l) (K (.exit 2) 36 [S a6 l6 c6 k6,J d n0 none,I (n0:Int),I b] h)):=by kernel_rfl
theorem ZCg{a6 l6 c6 k6 h}(K):CP UY 118 ((post ((post (flat (Za Tryz.f118))).drop 1)).drop 1) (MZ 36 [6] [S a6 l6 c6 k6]) h [2] K=(K .ret 36 [S a6 l6 c6 k6] h):=by kernel_rfl
theorem ZCh{x1 h}(K):CP UY 149 (flat (Za Tryz.f149)) (S0::I x1::Rp 25) h [4] K=(If (ltI x1 0) False (If (ltI 0 (IntKind.i64.wrap (x1-IntKind.i64.wrap ((↑(0:Nat):Int)-(↑(0:Nat):Int))))) (∃a b c d,VN UY 31 (S0) none (some (I (↑(0:Nat):Int))) none=some (S a b c d)∧ ∃e f g i j l,Zf UY h 32 3 (S a b c d) (I (IntKind.i64.wrap (x1-IntKind.i64.wrap ((↑(0:Nat):Int)-(↑(0:Nat):Int)))))=some (S (some (e,f)) g i j,l)∧j=1∧((0:Int)<=(↑(0:Nat):Int)∧(↑(0:Nat):Int)<=(↑(i.getD g):Int))∧K .ret 27 [S (some (e,f+(0:Nat)*j)) 0 (Option.map (fun(x:Nat)=>x-(0:Nat)) i) j] l) (K .ret 27 [S0] h))):=by kernel_rfl
theorem Zqq:UY.kd 32=some (.slice 3):=by kernel_rfl
theorem ty3:UY.ty 3=some ⟨1,8, .int .i64,[I 0]⟩:=by kernel_rfl
theorem Zqr(l:List Int)(i:Nat):(row encI l).drop i=row encI (l.drop i):=by rw[rowI,rowI,List.map_drop]
theorem Zir{α:Type} : ∀(A B C:List α),splice (A++B) A.length C=A++C++B.drop C.length
 | [],B,C=>by
  simp only[qy,qp]
  cases B<;>simp[splice]
 |a::A,B,C=>by
  simp only[qs,qh,splice]
  rw[Zir A B C,List.append_assoc]
abbrev Zaj(n:Nat):List Int:=List.replicate n 0
theorem Zqs(n:Nat):(List.replicate n ([I 0]:List V)).flatten=row encI (Zaj n):=by
 induction n with
 |zero=>rfl
 |succ n ih=>rw[List.replicate_succ,List.flatten_cons,ih];rfl
theorem Zyo{h:Heap}(n:Nat)(hn:n<2 ^ 29):Xz UY ⟨[],[],h⟩ ⟨1,8, .int .i64,[I 0]⟩ 3 (I (n:Int))=some (n,row encI (Zaj n)):=by
 have hk:UY.kd 3=some (.int .i64):=by kernel_rfl
 have hm:most=1099511627776:=by decide
 simp only[Xz,hk]
 rw[if_pos ⟨by omega,by rw[hm];omega,by rw[hm,qdq];omega⟩,qdq,Zqs]

theorem Zuh(x:Nat)(hx:x<2 ^ 29)(h:Heap):Con UY 149 [.sl none 0 (some 0) 0,I (x:Int)] h fun v h'=>(x=0∧v= .sl none 0 (some 0) 0)∨ ∃id,0<x∧v= .sl (some (id,0)) 0 none 1∧id<h'.nx∧h'.get id=some (.arr (row encI (Zaj x)) true):=by
 refine Zu UK (fn:=Tryz.f149) ?_
 refine Zn UK ZCh rfl ?_
 refine XC (fun h0=>absurd h0 (by omega)) (fun _=> ?_)
 have e0:IntKind.i64.wrap ((x:Int)-IntKind.i64.wrap (((0:Nat):Int)-((0:Nat):Int)))=(x:Int):=by
  rw[show IntKind.i64.wrap (((0:Nat):Int)-((0:Nat):Int))=0 from by decide,Int.sub_zero]
  exact ZG (by omega) (by omega)
 rw[e0]
 refine XC (fun h0=> ?_) (fun h0=> ?_)
 ·have hm:most=1099511627776:=by decide
  refine⟨none,0,some 0,0,by kernel_rfl,h.nx,0,x,none,1,h.pushT (UY.tag 3) (.arr (row encI (Zaj x)) true),?_,rfl,⟨by omega,by simp⟩,finC (.inr rfl) rfl (.now (.inr ⟨h.nx,by omega,rfl,by simp,by simp⟩))⟩
  simp only[Zf,ZR,Zqq,ty3,Zyo x hx]
  rw[if_neg (by simp[Zch]),if_neg (by omega),if_pos ⟨by rw[hm];omega,by rw[hm];omega⟩]
 ·exact finC (.inr rfl) rfl (.now (.inl ⟨by omega,rfl⟩))

abbrev Zcc(l:List Int):List V:= [lst encI l]
theorem Zis(l:List Int):(Zcc l).length=1:=rfl

def GrI(h:Heap)(a:Option (Nat×Nat))(n:Nat)(c:Option Nat)(k:Nat)(pre:List Int)(total:Nat):Prop:=
 (total=0∧a=none∧n=0)∨ ∃id,0<total∧a=some (id,0)∧n=pre.length∧c=none∧k=1∧id<h.nx∧h.get id=some (.arr (row encI (pre++Zaj (total-pre.length))) true)
theorem GrI.app{h:Heap}{a}{n:Nat}{c}{k:Nat}{pre:List Int}{total:Nat}(hG:GrI h a n c k pre total)(xs:List Int)(hx:pre.length+xs.length<=total)(ht:total<2 ^ 29):
  ∃a' n' c' k' h',Zf UY h 32 32 (.sl a n c k) (lst encI xs)=some (.sl a' n' c' k',h')∧GrI h' a' n' c' k' (pre++xs) total:=by
 have hm:most=1099511627776:=by decide
 have hs:Xz UY ⟨[],[],h⟩ ⟨1,8, .int .i64,[I 0]⟩ 32 (lst encI xs)=some (xs.length,row encI xs):=by
  simp only[lst,Xz,Zqq,QL,XE,Nat.mul_one,ZA (JX xs).symm,Option.map_some]
 rcases hG with ⟨rfl,rfl,rfl⟩|⟨id,htp,rfl,rfl,rfl,rfl,hid,hg⟩
 ·have hx0:xs= []:=qg (by omega)
  subst hx0
  refine⟨none,0,some 0,1,h,?_, .inl ⟨rfl,rfl,rfl⟩⟩
  simp only[Zf,ZR,Zqq,ty3,hs]
  rfl
 ·by_cases hx0:xs= []
  ·subst hx0
   refine⟨some (id,0),pre.length,none,1,h,?_, .inr ⟨id,htp,rfl,by simp,rfl,rfl,hid,by simpa using hg⟩⟩
   simp only[Zf,ZR,Zqq,ty3,hs]
   rfl
  ·have hpos:0<xs.length:=List.length_pos_iff.2 hx0
   have h1: ¬((pre.length+xs.length)*8>most∨pre.length+xs.length>most):=by rw[hm];omega
   have h2:0+(pre.length+xs.length)*1<=(row encI (pre++Zaj (total-pre.length))).length:=by rw[JX];simp;omega
   have h3:splice (row encI (pre++Zaj (total-pre.length))) (0+pre.length*1) (row encI xs)=row encI ((pre++xs)++Zaj (total-(pre++xs).length)):=by
    have e1:0+pre.length*1=(row encI pre).length:=by rw[JX];omega
    rw[Xo,e1,Zir,JX,Zqr,<-Xo,<-Xo]
    congr 2
    simp;omega
   refine⟨some (id,0),pre.length+xs.length,none,1,h.set id (some (.arr (row encI ((pre++xs)++Zaj (total-(pre++xs).length))) true)),?_, .inr ⟨id,htp,rfl,by simp,rfl,rfl,by simpa using hid,by rw[qc,if_pos rfl]⟩⟩
   simp only[Zf,ZR,Zqq,ty3,hs,hg]
   rw[if_neg (by simp[Zch]),if_neg (by decide),if_neg (by omega),if_neg h1,if_pos h2,if_pos trivial,h3]

theorem Zkv(ls:List (List Int))(hl:ls.length<2 ^ 20)(ht:ls.flatten.length<2 ^ 29)(h:Heap):Con UY 118 [lst Zcc ls] h fun v h'=> ∃a n c k,v= .sl a n c k∧GrI h' a n c k ls.flatten ls.flatten.length:=by
 refine Zu UK (fn:=Tryz.f118) ?_
 refine Zl UK 36 ZCc rfl ?_
 have part: ∀i,(ls.take i).flatten.length<=ls.flatten.length:=fun i=>by
  conv=>rhs;rw[<-List.take_append_drop i ls]
  rw[List.flatten_append,qf];omega
 have step: ∀ {i:Nat} (hlt:i<ls.length),(ls.take (i+1)).flatten=(ls.take i).flatten++ls[i]:=fun hlt=>by
  rw[qa hlt,List.flatten_append];simp
 refine⟨rfl,ZL [0,3,9,10,11] [0,3,9,10,11] (fun m vs _=> ∃i:Nat,vs= [lst Zcc ls,I ((ls.take i).flatten.length:Nat),lst Zcc ls,I ls.length,I (i:Nat)]∧i<=ls.length∧m=ls.length-i) ls.length Zy ⟨0,rfl,by omega,by omega⟩ ?_⟩
 rintro m vs h ⟨i,rfl,hi,rfl⟩
 refine Zs UK ZCd rfl ?_
 refine Zm (fun hlt=> ?_) (fun hge=> ?_)
 ·have e:IntKind.i64.wrap (((ls.take i).flatten.length:Int)+(ls[i].length:Nat))=((ls.take (i+1)).flatten.length:Nat):=by
   have h1:=part (i+1)
   rw[step hlt,qf]at h1 ⊢
   rw[ZG (by omega) (by omega)];omega
  refine⟨Zz hlt,row encI ls[i],ls[i].length,none,by rw[qdq];exact Xi (f:=Zcc) (k:=1) Zis hlt,?_⟩
  rw[e]
  refine XC (fun h0=>absurd h0 (by omega)) (fun _=> ?_)
  exact⟨rfl,ls.length-(i+1),by omega,i+1,by rw[Zh (by omega)];rfl,by omega,rfl⟩
 ·rw[qt hge]
  refine Zi [0,3] ?_
  refine Zl UK 36 ZCe rfl ?_
  refine(Zuh ls.flatten.length ht h).mono fun v h' hv=> ?_
  have hv: ∃a n c k,v= .sl a n c k∧GrI h' a n c k [] ls.flatten.length:=by
   rcases hv with ⟨h1,h2⟩|⟨id,h0,h1,h2,h3⟩
   ·exact⟨none,0,some 0,0,h2, .inl ⟨h1,rfl,rfl⟩⟩
   ·exact⟨some (id,0),0,none,1,h1, .inr ⟨id,h0,rfl,rfl,rfl,rfl,h2,h3⟩⟩
  obtain⟨a,n,c,k,hv,hG⟩:=hv
  refine⟨a,n,c,k,hv,rfl,ZL [6,25,26,27] [6,25,26,27] (fun m vs h=> ∃(j:Nat) (a:Option (Nat×Nat)) (n:Nat) (c:Option Nat) (k:Nat),vs= [.sl a n c k,lst Zcc ls,I ls.length,I (j:Nat)]∧j<=ls.length∧m=ls.length-j∧GrI h a n c k (ls.take j).flatten ls.flatten.length) ls.length Zy ⟨0,a,n,c,k,rfl,by omega,by omega,hG⟩ ?_⟩
  clear hG
  rintro m vs h2 ⟨j,a,n,c,k,rfl,hj,rfl,hG⟩
  refine Zs UK ZCf rfl ?_
  refine Zm (fun hlt=> ?_) (fun hge2=> ?_)
  ·have h1:=part (j+1)
   rw[step hlt,qf]at h1
   obtain⟨a',n',c',k',h3,q1,q2⟩:=hG.app ls[j] h1 ht
   exact⟨Zz hlt,row encI ls[j],ls[j].length,none,by rw[qdq];exact Xi (f:=Zcc) (k:=1) Zis hlt,a',n',c',k',h3,q1,rfl,ls.length-(j+1),by omega,j+1,a',n',c',k',by rw[Zh (by omega)];rfl,by omega,rfl,by rw[step hlt];exact q2⟩
  ·refine Zi [6] ?_
   refine Zn UK ZCg rfl ?_
   rw[qt hge2]at hG
   exact finC (.inr rfl) rfl (.now ⟨a,n,c,k,rfl,hG⟩)
end Go.Y
