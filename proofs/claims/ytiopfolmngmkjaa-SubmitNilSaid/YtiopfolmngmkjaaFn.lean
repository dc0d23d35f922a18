/-
  Functions' compiled code, the kinds of their slots, what lives at their loops' heads.
-/
import Derived.Test.YtiopfolmngmkjaaLive
import Derived.Test.YtiopfolmngmkjaaAmF
namespace Go.Proofs.Ytiopfolmngmkjaa
open Go.AM
def vk4 : List (Tmp × VK) := [(9, .sl), (10, (.int .i64)), (11, .bool), (12, .bool), (14, (.tup [.ptr, (.int .i64)])), (19, (.tup [(.agg [(.int .i64), (.int .i64)]), .sl, .bool])), (24, .bool), (27, .bool), (31, (.agg [(.int .i64), (.int .i64), .sl, (.int .i64), (.int .i64), (.int .i64), (.int .i64), (.int .i64), (.int .i64), (.int .i64)])), (32, (.int .i64)), (33, .bool), (37, .sl), (38, (.int .i64)), (39, .bool), (45, (.agg [(.int .i64), (.int .i64)])), (46, .sl), (47, (.int .i64)), (48, .bool), (52, (.int .i64)), (53, .bool), (62, (.int .i64)), (64, .sl), (66, (.agg [(.int .i64), (.int .i64), (.int .i64), (.int .i64), (.int .i64), (.int .i64), (.int .i64)])), (67, .bool), (71, .bool)]
def ann4 : List (Nat × LAnn) := []
def vk10 : List (Tmp × VK) := [(7, .bool), (10, .bool), (14, .bool), (18, .bool)]
def ann10 : List (Nat × LAnn) := []
def vk12 : List (Tmp × VK) := [(12, .bool), (16, (.int .i64)), (17, .bool), (23, (.int .i64)), (24, .bool), (32, (.int .i64)), (33, (.int .i64)), (35, (.agg [(.int .i64), (.int .i64), (.int .i64), (.int .i64), (.int .i64), (.int .i64), (.int .i64)])), (37, (.tup [.ptr, (.int .i64)])), (41, .bool)]
def ann12 : List (Nat × LAnn) := []
def vk14 : List (Tmp × VK) := [(10, (.agg [(.int .i64), (.int .i64), .sl, (.int .i64), (.int .i64), (.int .i64), (.int .i64), (.int .i64), (.int .i64), (.int .i64)])), (11, (.tup [.ptr, (.int .i64)])), (21, .bool), (26, (.int .i64)), (27, .bool), (29, .sl), (30, .sl), (33, (.int .i64)), (35, (.int .i64)), (40, .mp), (43, (.agg [(.int .i64), (.int .i64)])), (51, (.int .i64)), (52, .bool), (56, .mp), (58, (.int .i64)), (60, (.int .i64)), (16, (.int .i64))]
def ann14 : List (Nat × LAnn) := []
def vk16 : List (Tmp × VK) := [(9, .sl), (10, (.int .i64)), (12, (.tup [])), (14, (.agg [(.int .i64), (.int .i64)])), (18, .mp), (19, (.agg [(.int .i64), (.int .i64)])), (20, .ptr), (24, .mp), (25, (.int .i64)), (29, (.int .i64)), (30, .bool), (31, (.agg [(.int .i64), (.int .i64)])), (35, .sl), (36, .sl), (37, (.int .i64))]
def ann16 : List (Nat × LAnn) := [(0, ⟨[0, 2, 9, 10, 11], [(.ext 0, [(2, .ptr)]), (.ret, [(2, .ptr), (3, .sl), (4, .bool)])]⟩)]
def vk20 : List (Tmp × VK) := [(3, .ptr), (4, .sl), (6, .sl)]
def ann20 : List (Nat × LAnn) := []
def vk22 : List (Tmp × VK) := [(6, .bool), (11, .mp), (12, (.agg [(.int .i64), (.int .i64)])), (13, .ptr), (14, .bool), (19, .mp), (20, (.agg [(.int .i64), (.int .i64)])), (21, .ptr), (24, .mp), (25, .fn), (26, .sl)]
def ann22 : List (Nat × LAnn) := []
def vk28 : List (Tmp × VK) := [(11, .bool), (13, (.agg [(.int .i64), (.int .i64), .sl, (.int .i64), (.int .i64), (.int .i64), (.int .i64), (.int .i64), (.int .i64), (.int .i64)])), (14, (.int .i64)), (15, .bool), (19, .sl), (20, (.int .i64)), (24, (.int .i64)), (25, .bool), (30, (.int .i64)), (31, .bool), (36, (.int .i64)), (40, (.int .i64)), (41, .bool), (45, (.int .i64)), (46, .bool), (51, .mp), (54, (.agg [(.int .i64), (.int .i64)])), (55, .ptr), (56, .bool), (61, .mp), (62, (.int .i64)), (63, .bool), (67, .mp), (70, (.agg [(.int .i64), (.int .i64)])), (71, .ptr), (75, (.int .i64)), (77, .bool), (81, (.int .i64)), (82, .bool), (85, .sl), (88, (.int .i64)), (92, .sl), (95, (.int .i64)), (96, .bool), (101, (.int .i64)), (102, .bool), (106, .mp), (108, (.int .i64)), (109, (.int .i64)), (110, .bool), (114, (.int .i64)), (115, .bool), (126, (.int .i64)), (127, .bool), (132, (.int .i64)), (133, .bool), (137, (.int .i64)), (138, .bool), (145, (.int .i64)), (146, .bool), (154, (.int .i64)), (155, .bool), (159, (.agg [(.int .i64), (.int .i64), .sl, (.int .i64), (.int .i64), (.int .i64), (.int .i64), (.int .i64), (.int .i64), (.int .i64)])), (160, .bool), (167, (.int .i64)), (168, .bool), (171, (.agg [(.int .i64), (.int .i64), .sl, (.int .i64), (.int .i64), (.int .i64), (.int .i64), (.int .i64), (.int .i64), (.int .i64)])), (172, .bool)]
def ann28 : List (Nat × LAnn) := []
def vk35 : List (Tmp × VK) := [(4, .bool), (8, .mp), (9, .fn), (10, .sl), (11, .sl)]
def ann35 : List (Nat × LAnn) := []
def vk37 : List (Tmp × VK) := [(10, (.int .i64)), (12, .bool), (15, (.int .i64)), (18, (.int .i64)), (19, .bool), (25, (.agg [(.int .i64), (.int .i64)])), (27, (.agg [(.int .i64), (.int .i64)])), (28, .bool), (32, (.agg [(.int .i64), (.int .i64)])), (35, (.int .i64)), (21, (.int .i64)), (38, .sl), (41, .sl)]
def ann37 : List (Nat × LAnn) := [(0, ⟨[0, 1, 5, 6], [(.ext 0, [(0, .sl), (5, (.int .i64))])]⟩)]
def vk59 : List (Tmp × VK) := [(7, (.int .i64)), (9, (.tup [])), (15, (.agg [(.int .i64), (.int .i64)])), (16, .bool), (18, (.int .i64))]
def ann59 : List (Nat × LAnn) := [(0, ⟨[0, 1, 7, 8], [(.ext 0, []), (.ret, [(4, (.int .i64))])]⟩)]
end Go.Proofs.Ytiopfolmngmkjaa
