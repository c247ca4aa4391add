/- Part of the proof: an interpreter of the model, proved sound, and what it makes of the functions. -/
import Derived.Test.YtbaenaalfpcaaaaGreatDoorA4
import Derived.Test.YtbaenaalfpcaaaaGreatDoorRows
import Derived.KernelRfl
set_option linter.unusedVariables false
set_option linter.unusedSimpArgs false
set_option maxRecDepth 100000
namespace Go.Proofs.YtbaenaalfpcaaaaGreatDoor
open Go.Sim
def z60 : List AV := (([.bool false] : List AV)) ++ (repl 25 (repl 40 (([.int .i64 0, .int .i64 0, .int .i64 0, .bool false, .bool false, .bool false, .bool false, .bool false, .int .i64 0, .int .i64 0] : List AV)))) ++ (([.nsl] : List AV)) ++ (([.str ByteArray.empty] : List AV)) ++ (([.int .i64 0] : List AV)) ++ (([.int .i64 0] : List AV)) ++ (([.int .i64 0] : List AV))
def z61 : List AV := (([.bool false] : List AV)) ++ (repl 25 (repl 40 (([.int .i64 0, .int .i64 0, .int .i64 0, .bool false, .bool false, .bool false, .bool false, .bool false, .int .i64 0, .int .i64 0] : List AV)))) ++ (([.nsl] : List AV)) ++ (([.str ByteArray.empty] : List AV)) ++ (([.int .i64 0] : List AV)) ++ (([.int .i64 0] : List AV)) ++ (([.int .i64 0] : List AV))
def z111 : List AV := ((([.int .i64 0, .int .i64 0, .int .i64 0] : List AV)) ++ (([.bool false, .bool false, .bool false, .bool false, .bool false, .bool false, .bool false, .bool false, .bool false, .bool false, .bool false] : List AV)) ++ (([.int .i64 0] : List AV))) ++ (repl 25 (repl 40 (([.int .u8 0] : List AV)))) ++ (repl 25 (([.bool false] : List AV))) ++ (([.nsl] : List AV)) ++ (repl 6 (([.int .i64 0, .int .i64 0, .int .i64 0] : List AV))) ++ (([.bool false] : List AV)) ++ (([.int .i64 0] : List AV))
def z112 : List AV := ((([.int .i64 0, .int .i64 0, .int .i64 0] : List AV)) ++ (([.bool false, .bool false, .bool false, .bool false, .bool false, .bool false, .bool false, .bool false, .bool false, .bool false, .bool false] : List AV)) ++ (([.int .i64 0] : List AV))) ++ (repl 25 (repl 40 (([.int .u8 0] : List AV)))) ++ (repl 25 (([.bool false] : List AV))) ++ (([.nsl] : List AV)) ++ (repl 6 (([.int .i64 0, .int .i64 0, .int .i64 0] : List AV))) ++ (([.bool false] : List AV)) ++ (([.int .i64 0] : List AV))
def z113 : List AV := (([.nilp] : List AV)) ++ (([.int .i64 0, .int .i64 0, .int .i64 0, .nsl, .nsl, .bool false, .bool false, .bool false, .bool false] : List AV)) ++ (((([.int .i64 0, .int .i64 0, .int .i64 0] : List AV)) ++ (([.bool false, .bool false, .bool false, .bool false, .bool false, .bool false, .bool false, .bool false, .bool false, .bool false, .bool false] : List AV)) ++ (([.int .i64 0] : List AV))) ++ (repl 25 (repl 40 (([.int .u8 0] : List AV)))) ++ (repl 25 (([.bool false] : List AV))) ++ (([.nsl] : List AV)) ++ (repl 6 (([.int .i64 0, .int .i64 0, .int .i64 0] : List AV))) ++ (([.bool false] : List AV)) ++ (([.int .i64 0] : List AV))) ++ (([.bool false] : List AV)) ++ (([.int .i64 0] : List AV))
def z114 : List AV := (([.nilp] : List AV)) ++ (([.int .i64 0, .int .i64 0, .int .i64 0, .nsl, .nsl, .bool false, .bool false, .bool false, .bool false] : List AV)) ++ (((([.int .i64 0, .int .i64 0, .int .i64 0] : List AV)) ++ (([.bool false, .bool false, .bool false, .bool false, .bool false, .bool false, .bool false, .bool false, .bool false, .bool false, .bool false] : List AV)) ++ (([.int .i64 0] : List AV))) ++ (repl 25 (repl 40 (([.int .u8 0] : List AV)))) ++ (repl 25 (([.bool false] : List AV))) ++ (([.nsl] : List AV)) ++ (repl 6 (([.int .i64 0, .int .i64 0, .int .i64 0] : List AV))) ++ (([.bool false] : List AV)) ++ (([.int .i64 0] : List AV))) ++ (([.bool false] : List AV)) ++ (([.int .i64 0] : List AV))
def z178 : List AV := (([.bool false] : List AV)) ++ (((([.int .i64 0, .int .i64 0, .int .i64 0] : List AV)) ++ (([.bool false, .bool false, .bool false, .bool false, .bool false, .bool false, .bool false, .bool false, .bool false, .bool false, .bool false] : List AV)) ++ (([.int .i64 0] : List AV))) ++ (repl 25 (repl 40 (([.int .u8 0] : List AV)))) ++ (repl 25 (([.bool false] : List AV))) ++ (([.nsl] : List AV)) ++ (repl 6 (([.int .i64 0, .int .i64 0, .int .i64 0] : List AV))) ++ (([.bool false] : List AV)) ++ (([.int .i64 0] : List AV))) ++ ((([.int .i64 0, .int .i64 0, .int .i64 0] : List AV)) ++ (([.bool false, .bool false, .bool false, .bool false, .bool false, .bool false, .bool false, .bool false, .bool false, .bool false, .bool false] : List AV)) ++ (([.int .i64 0] : List AV))) ++ (([.nsl] : List AV)) ++ (([.bool false] : List AV)) ++ (([.int .i64 0] : List AV)) ++ (([.bool false] : List AV))
def z179 : List AV := (([.bool false] : List AV)) ++ (((([.int .i64 0, .int .i64 0, .int .i64 0] : List AV)) ++ (([.bool false, .bool false, .bool false, .bool false, .bool false, .bool false, .bool false, .bool false, .bool false, .bool false, .bool false] : List AV)) ++ (([.int .i64 0] : List AV))) ++ (repl 25 (repl 40 (([.int .u8 0] : List AV)))) ++ (repl 25 (([.bool false] : List AV))) ++ (([.nsl] : List AV)) ++ (repl 6 (([.int .i64 0, .int .i64 0, .int .i64 0] : List AV))) ++ (([.bool false] : List AV)) ++ (([.int .i64 0] : List AV))) ++ ((([.int .i64 0, .int .i64 0, .int .i64 0] : List AV)) ++ (([.bool false, .bool false, .bool false, .bool false, .bool false, .bool false, .bool false, .bool false, .bool false, .bool false, .bool false] : List AV)) ++ (([.int .i64 0] : List AV))) ++ (([.nsl] : List AV)) ++ (([.bool false] : List AV)) ++ (([.int .i64 0] : List AV)) ++ (([.bool false] : List AV))
def z180 : List AV := repl 9 ((([.bool false] : List AV)) ++ (((([.int .i64 0, .int .i64 0, .int .i64 0] : List AV)) ++ (([.bool false, .bool false, .bool false, .bool false, .bool false, .bool false, .bool false, .bool false, .bool false, .bool false, .bool false] : List AV)) ++ (([.int .i64 0] : List AV))) ++ (repl 25 (repl 40 (([.int .u8 0] : List AV)))) ++ (repl 25 (([.bool false] : List AV))) ++ (([.nsl] : List AV)) ++ (repl 6 (([.int .i64 0, .int .i64 0, .int .i64 0] : List AV))) ++ (([.bool false] : List AV)) ++ (([.int .i64 0] : List AV))) ++ ((([.int .i64 0, .int .i64 0, .int .i64 0] : List AV)) ++ (([.bool false, .bool false, .bool false, .bool false, .bool false, .bool false, .bool false, .bool false, .bool false, .bool false, .bool false] : List AV)) ++ (([.int .i64 0] : List AV))) ++ (([.nsl] : List AV)) ++ (([.bool false] : List AV)) ++ (([.int .i64 0] : List AV)) ++ (([.bool false] : List AV)))
def z182 : List AV := (([.nilp] : List AV)) ++ (repl 9 ((([.bool false] : List AV)) ++ (((([.int .i64 0, .int .i64 0, .int .i64 0] : List AV)) ++ (([.bool false, .bool false, .bool false, .bool false, .bool false, .bool false, .bool false, .bool false, .bool false, .bool false, .bool false] : List AV)) ++ (([.int .i64 0] : List AV))) ++ (repl 25 (repl 40 (([.int .u8 0] : List AV)))) ++ (repl 25 (([.bool false] : List AV))) ++ (([.nsl] : List AV)) ++ (repl 6 (([.int .i64 0, .int .i64 0, .int .i64 0] : List AV))) ++ (([.bool false] : List AV)) ++ (([.int .i64 0] : List AV))) ++ ((([.int .i64 0, .int .i64 0, .int .i64 0] : List AV)) ++ (([.bool false, .bool false, .bool false, .bool false, .bool false, .bool false, .bool false, .bool false, .bool false, .bool false, .bool false] : List AV)) ++ (([.int .i64 0] : List AV))) ++ (([.nsl] : List AV)) ++ (([.bool false] : List AV)) ++ (([.int .i64 0] : List AV)) ++ (([.bool false] : List AV)))) ++ (([.int .i64 0, .int .i64 0, .int .i64 0, .int .i64 0, .int .i64 0, .int .i64 0, .int .i64 0, .int .i64 0, .int .i64 0, .str ByteArray.empty] : List AV)) ++ (([.bool false] : List AV))
def z183 : List AV := (([.nilp] : List AV)) ++ (repl 9 ((([.bool false] : List AV)) ++ (((([.int .i64 0, .int .i64 0, .int .i64 0] : List AV)) ++ (([.bool false, .bool false, .bool false, .bool false, .bool false, .bool false, .bool false, .bool false, .bool false, .bool false, .bool false] : List AV)) ++ (([.int .i64 0] : List AV))) ++ (repl 25 (repl 40 (([.int .u8 0] : List AV)))) ++ (repl 25 (([.bool false] : List AV))) ++ (([.nsl] : List AV)) ++ (repl 6 (([.int .i64 0, .int .i64 0, .int .i64 0] : List AV))) ++ (([.bool false] : List AV)) ++ (([.int .i64 0] : List AV))) ++ ((([.int .i64 0, .int .i64 0, .int .i64 0] : List AV)) ++ (([.bool false, .bool false, .bool false, .bool false, .bool false, .bool false, .bool false, .bool false, .bool false, .bool false, .bool false] : List AV)) ++ (([.int .i64 0] : List AV))) ++ (([.nsl] : List AV)) ++ (([.bool false] : List AV)) ++ (([.int .i64 0] : List AV)) ++ (([.bool false] : List AV)))) ++ (([.int .i64 0, .int .i64 0, .int .i64 0, .int .i64 0, .int .i64 0, .int .i64 0, .int .i64 0, .int .i64 0, .int .i64 0, .str ByteArray.empty] : List AV)) ++ (([.bool false] : List AV))
def Ls : List (Nat × TI) := [
 (1, ⟨.func, 1, 8, ([.nilF] : List AV)⟩),
 (2, ⟨.int .i64, 1, 8, ([.int .i64 0] : List AV)⟩),
 (3, ⟨.int .i64, 1, 8, ([.int .i64 0] : List AV)⟩),
 (4, ⟨.bool, 1, 1, ([.bool false] : List AV)⟩),
 (5, ⟨.int .u8, 1, 1, ([.int .u8 0] : List AV)⟩),
 (6, ⟨.int .u8, 1, 1, ([.int .u8 0] : List AV)⟩),
 (7, ⟨.strct [(0, 2), (1, 3), (2, 4), (3, 6)], 4, 24, ([.int .i64 0, .int .i64 0, .bool false, .int .u8 0] : List AV)⟩),
 (8, ⟨.strct [(0, 2), (1, 3), (2, 4), (3, 6)], 4, 24, ([.int .i64 0, .int .i64 0, .bool false, .int .u8 0] : List AV)⟩),
 (9, ⟨.str, 1, 16, ([.str ByteArray.empty] : List AV)⟩),
 (10, ⟨.str, 1, 16, ([.str ByteArray.empty] : List AV)⟩),
 (11, ⟨.str, 1, 16, ([.str ByteArray.empty] : List AV)⟩),
 (12, ⟨.int .u64, 1, 8, ([.int .u64 0] : List AV)⟩),
 (13, ⟨.opq, 2, 24, ([.str ByteArray.empty, .int .u64 0] : List AV)⟩),
 (14, ⟨.opq, 2, 24, ([.str ByteArray.empty, .int .u64 0] : List AV)⟩),
 (15, ⟨.ptr 378, 1, 8, ([.nilp] : List AV)⟩),
 (16, ⟨.ptr 381, 1, 8, ([.nilp] : List AV)⟩),
 (17, ⟨.ptr 388, 1, 8, ([.nilp] : List AV)⟩),
 (18, ⟨.opq, 1, 8, ([.nilp] : List AV)⟩),
 (19, ⟨.opq, 1, 8, ([.nilp] : List AV)⟩),
 (20, ⟨.iface, 1, 16, ([.nilI] : List AV)⟩),
 (21, ⟨.int .i32, 1, 4, ([.int .i32 0] : List AV)⟩),
 (22, ⟨.arr 32 5, 32, 32, repl 32 (([.int .u8 0] : List AV))⟩),
 (23, ⟨.func, 1, 8, ([.nilF] : List AV)⟩),
 (24, ⟨.ptr 114, 1, 8, ([.nilp] : List AV)⟩),
 (25, ⟨.iface, 1, 16, ([.nilI] : List AV)⟩),
 (26, ⟨.iface, 1, 16, ([.nilI] : List AV)⟩),
 (28, ⟨.func, 1, 8, ([.nilF] : List AV)⟩),
 (29, ⟨.slice 5, 1, 24, ([.nsl] : List AV)⟩),
 (30, ⟨.func, 1, 8, ([.nilF] : List AV)⟩),
 (31, ⟨.func, 1, 8, ([.nilF] : List AV)⟩),
 (32, ⟨.slice 3, 1, 24, ([.nsl] : List AV)⟩),
 (33, ⟨.strct [(0, 3), (1, 3), (2, 3), (3, 3), (4, 3), (5, 32), (6, 29), (7, 29), (8, 32)], 9, 136, ([.int .i64 0, .int .i64 0, .int .i64 0, .int .i64 0, .int .i64 0, .nsl, .nsl, .nsl, .nsl] : List AV)⟩),
 (34, ⟨.strct [(0, 3), (1, 3), (2, 3), (3, 3), (4, 3), (5, 32), (6, 29), (7, 29), (8, 32)], 9, 136, ([.int .i64 0, .int .i64 0, .int .i64 0, .int .i64 0, .int .i64 0, .nsl, .nsl, .nsl, .nsl] : List AV)⟩),
 (35, ⟨.func, 1, 8, ([.nilF] : List AV)⟩),
 (36, ⟨.strct [(0, 3), (1, 3), (2, 3), (3, 4), (4, 4), (5, 4), (6, 4), (7, 4), (8, 3), (9, 3)], 10, 48, ([.int .i64 0, .int .i64 0, .int .i64 0, .bool false, .bool false, .bool false, .bool false, .bool false, .int .i64 0, .int .i64 0] : List AV)⟩),
 (37, ⟨.strct [(0, 3), (1, 3), (2, 3), (3, 4), (4, 4), (5, 4), (6, 4), (7, 4), (8, 3), (9, 3)], 10, 48, ([.int .i64 0, .int .i64 0, .int .i64 0, .bool false, .bool false, .bool false, .bool false, .bool false, .int .i64 0, .int .i64 0] : List AV)⟩),
 (38, ⟨.arr 40 37, 400, 1920, repl 40 (([.int .i64 0, .int .i64 0, .int .i64 0, .bool false, .bool false, .bool false, .bool false, .bool false, .int .i64 0, .int .i64 0] : List AV))⟩),
 (39, ⟨.arr 25 38, 10000, 48000, repl 25 (repl 40 (([.int .i64 0, .int .i64 0, .int .i64 0, .bool false, .bool false, .bool false, .bool false, .bool false, .int .i64 0, .int .i64 0] : List AV)))⟩),
 (40, ⟨.arr 25 38, 10000, 48000, repl 25 (repl 40 (([.int .i64 0, .int .i64 0, .int .i64 0, .bool false, .bool false, .bool false, .bool false, .bool false, .int .i64 0, .int .i64 0] : List AV)))⟩),
 (41, ⟨.func, 1, 8, ([.nilF] : List AV)⟩),
 (42, ⟨.strct [(0, 3), (1, 3), (2, 3)], 3, 24, ([.int .i64 0, .int .i64 0, .int .i64 0] : List AV)⟩),
 (43, ⟨.strct [(0, 3), (1, 3), (2, 3)], 3, 24, ([.int .i64 0, .int .i64 0, .int .i64 0] : List AV)⟩),
 (44, ⟨.strct [(0, 43), (3, 4), (4, 43), (7, 9), (8, 3), (9, 3)], 10, 88, ([.int .i64 0, .int .i64 0, .int .i64 0, .bool false, .int .i64 0, .int .i64 0, .int .i64 0, .str ByteArray.empty, .int .i64 0, .int .i64 0] : List AV)⟩),
 (45, ⟨.strct [(0, 43), (3, 4), (4, 43), (7, 9), (8, 3), (9, 3)], 10, 88, ([.int .i64 0, .int .i64 0, .int .i64 0, .bool false, .int .i64 0, .int .i64 0, .int .i64 0, .str ByteArray.empty, .int .i64 0, .int .i64 0] : List AV)⟩),
 (46, ⟨.func, 1, 8, ([.nilF] : List AV)⟩),
 (47, ⟨.func, 1, 8, ([.nilF] : List AV)⟩),
 (48, ⟨.func, 1, 8, ([.nilF] : List AV)⟩),
 (49, ⟨.slice 51, 1, 24, ([.nsl] : List AV)⟩),
 (50, ⟨.strct [(0, 3), (1, 3), (2, 29)], 3, 40, ([.int .i64 0, .int .i64 0, .nsl] : List AV)⟩),
 (51, ⟨.strct [(0, 3), (1, 3), (2, 29)], 3, 40, ([.int .i64 0, .int .i64 0, .nsl] : List AV)⟩),
 (52, ⟨.ptr 145, 1, 8, ([.nilp] : List AV)⟩),
 (54, ⟨.func, 1, 8, ([.nilF] : List AV)⟩),
 (55, ⟨.func, 1, 8, ([.nilF] : List AV)⟩),
 (56, ⟨.func, 1, 8, ([.nilF] : List AV)⟩),
 (57, ⟨.strct [(0, 3), (1, 4), (2, 3)], 3, 24, ([.int .i64 0, .bool false, .int .i64 0] : List AV)⟩),
 (58, ⟨.strct [(0, 3), (1, 4), (2, 3)], 3, 24, ([.int .i64 0, .bool false, .int .i64 0] : List AV)⟩),
 (59, ⟨.func, 1, 8, ([.nilF] : List AV)⟩),
 (60, ⟨.strct [(0, 4), (1, 39), (10001, 29), (10002, 9), (10003, 3), (10004, 3), (10005, 3)], 10006, 48072, z60⟩),
 (61, ⟨.strct [(0, 4), (1, 39), (10001, 29), (10002, 9), (10003, 3), (10004, 3), (10005, 3)], 10006, 48072, z61⟩),
 (62, ⟨.func, 1, 8, ([.nilF] : List AV)⟩),
 (63, ⟨.func, 1, 8, ([.nilF] : List AV)⟩),
 (64, ⟨.func, 1, 8, ([.nilF] : List AV)⟩),
 (65, ⟨.func, 1, 8, ([.nilF] : List AV)⟩),
 (66, ⟨.int .u64, 1, 8, ([.int .u64 0] : List AV)⟩),
 (67, ⟨.func, 1, 8, ([.nilF] : List AV)⟩),
 (68, ⟨.arr 40 5, 40, 40, repl 40 (([.int .u8 0] : List AV))⟩),
 (69, ⟨.slice 34, 1, 24, ([.nsl] : List AV)⟩),
 (70, ⟨.func, 1, 8, ([.nilF] : List AV)⟩),
 (71, ⟨.func, 1, 8, ([.nilF] : List AV)⟩),
 (72, ⟨.func, 1, 8, ([.nilF] : List AV)⟩),
 (73, ⟨.ptr 165, 1, 8, ([.nilp] : List AV)⟩),
 (75, ⟨.func, 1, 8, ([.nilF] : List AV)⟩),
 (76, ⟨.func, 1, 8, ([.nilF] : List AV)⟩),
 (77, ⟨.func, 1, 8, ([.nilF] : List AV)⟩),
 (78, ⟨.func, 1, 8, ([.nilF] : List AV)⟩),
 (79, ⟨.func, 1, 8, ([.nilF] : List AV)⟩),
 (80, ⟨.strct [(0, 3), (1, 3), (2, 3), (3, 3), (4, 4), (5, 4), (6, 4), (7, 4), (8, 4), (9, 4), (10, 4), (11, 4), (12, 4), (13, 3)], 14, 56, (([.int .i64 0] : List AV)) ++ (([.int .i64 0] : List AV)) ++ (([.int .i64 0] : List AV)) ++ (([.int .i64 0] : List AV)) ++ (([.bool false] : List AV)) ++ (([.bool false] : List AV)) ++ (([.bool false] : List AV)) ++ (([.bool false] : List AV)) ++ (([.bool false] : List AV)) ++ (([.bool false] : List AV)) ++ (([.bool false] : List AV)) ++ (([.bool false] : List AV)) ++ (([.bool false] : List AV)) ++ (([.int .i64 0] : List AV))⟩),
 (81, ⟨.strct [(0, 3), (1, 3), (2, 3), (3, 3), (4, 4), (5, 4), (6, 4), (7, 4), (8, 4), (9, 4), (10, 4), (11, 4), (12, 4), (13, 3)], 14, 56, (([.int .i64 0] : List AV)) ++ (([.int .i64 0] : List AV)) ++ (([.int .i64 0] : List AV)) ++ (([.int .i64 0] : List AV)) ++ (([.bool false] : List AV)) ++ (([.bool false] : List AV)) ++ (([.bool false] : List AV)) ++ (([.bool false] : List AV)) ++ (([.bool false] : List AV)) ++ (([.bool false] : List AV)) ++ (([.bool false] : List AV)) ++ (([.bool false] : List AV)) ++ (([.bool false] : List AV)) ++ (([.int .i64 0] : List AV))⟩),
 (82, ⟨.arr 4 4, 4, 4, ([.bool false, .bool false, .bool false, .bool false] : List AV)⟩),
 (83, ⟨.arr 4 82, 16, 16, repl 4 (([.bool false, .bool false, .bool false, .bool false] : List AV))⟩),
 (84, ⟨.strct [(0, 83)], 16, 16, (repl 4 (([.bool false, .bool false, .bool false, .bool false] : List AV)))⟩),
 (85, ⟨.strct [(0, 83)], 16, 16, (repl 4 (([.bool false, .bool false, .bool false, .bool false] : List AV)))⟩),
 (86, ⟨.strct [(0, 85), (16, 4), (17, 4), (18, 4), (19, 4), (20, 5), (21, 4)], 22, 22, ((repl 4 (([.bool false, .bool false, .bool false, .bool false] : List AV)))) ++ (([.bool false] : List AV)) ++ (([.bool false] : List AV)) ++ (([.bool false] : List AV)) ++ (([.bool false] : List AV)) ++ (([.int .u8 0] : List AV)) ++ (([.bool false] : List AV))⟩),
 (87, ⟨.strct [(0, 85), (16, 4), (17, 4), (18, 4), (19, 4), (20, 5), (21, 4)], 22, 22, ((repl 4 (([.bool false, .bool false, .bool false, .bool false] : List AV)))) ++ (([.bool false] : List AV)) ++ (([.bool false] : List AV)) ++ (([.bool false] : List AV)) ++ (([.bool false] : List AV)) ++ (([.int .u8 0] : List AV)) ++ (([.bool false] : List AV))⟩),
 (89, ⟨.func, 1, 8, ([.nilF] : List AV)⟩),
 (90, ⟨.func, 1, 8, ([.nilF] : List AV)⟩),
 (91, ⟨.func, 1, 8, ([.nilF] : List AV)⟩),
 (92, ⟨.slice 4, 1, 24, ([.nsl] : List AV)⟩),
 (93, ⟨.func, 1, 8, ([.nilF] : List AV)⟩),
 (94, ⟨.func, 1, 8, ([.nilF] : List AV)⟩),
 (95, ⟨.func, 1, 8, ([.nilF] : List AV)⟩),
 (96, ⟨.func, 1, 8, ([.nilF] : List AV)⟩),
 (97, ⟨.func, 1, 8, ([.nilF] : List AV)⟩),
 (98, ⟨.ptr 183, 1, 8, ([.nilp] : List AV)⟩),
 (100, ⟨.func, 1, 8, ([.nilF] : List AV)⟩),
 (101, ⟨.strct [(0, 43), (3, 32), (4, 32), (5, 4), (6, 4), (7, 4), (8, 4)], 9, 80, ([.int .i64 0, .int .i64 0, .int .i64 0, .nsl, .nsl, .bool false, .bool false, .bool false, .bool false] : List AV)⟩),
 (102, ⟨.strct [(0, 43), (3, 32), (4, 32), (5, 4), (6, 4), (7, 4), (8, 4)], 9, 80, ([.int .i64 0, .int .i64 0, .int .i64 0, .nsl, .nsl, .bool false, .bool false, .bool false, .bool false] : List AV)⟩),
 (103, ⟨.func, 1, 8, ([.nilF] : List AV)⟩),
 (104, ⟨.arr 11 4, 11, 11, ([.bool false, .bool false, .bool false, .bool false, .bool false, .bool false, .bool false, .bool false, .bool false, .bool false, .bool false] : List AV)⟩),
 (105, ⟨.strct [(0, 43), (3, 104), (14, 3)], 15, 48, (([.int .i64 0, .int .i64 0, .int .i64 0] : List AV)) ++ (([.bool false, .bool false, .bool false, .bool false, .bool false, .bool false, .bool false, .bool false, .bool false, .bool false, .bool false] : List AV)) ++ (([.int .i64 0] : List AV))⟩),
 (106, ⟨.strct [(0, 43), (3, 104), (14, 3)], 15, 48, (([.int .i64 0, .int .i64 0, .int .i64 0] : List AV)) ++ (([.bool false, .bool false, .bool false, .bool false, .bool false, .bool false, .bool false, .bool false, .bool false, .bool false, .bool false] : List AV)) ++ (([.int .i64 0] : List AV))⟩),
 (107, ⟨.arr 25 68, 1000, 1000, repl 25 (repl 40 (([.int .u8 0] : List AV)))⟩),
 (108, ⟨.arr 25 4, 25, 25, repl 25 (([.bool false] : List AV))⟩),
 (109, ⟨.slice 124, 1, 24, ([.nsl] : List AV)⟩),
 (110, ⟨.arr 6 43, 18, 144, repl 6 (([.int .i64 0, .int .i64 0, .int .i64 0] : List AV))⟩),
 (111, ⟨.strct [(0, 106), (15, 107), (1015, 108), (1040, 109), (1041, 110), (1059, 4), (1060, 3)], 1061, 1264, z111⟩),
 (112, ⟨.strct [(0, 106), (15, 107), (1015, 108), (1040, 109), (1041, 110), (1059, 4), (1060, 3)], 1061, 1264, z112⟩),
 (113, ⟨.strct [(0, 98), (1, 102), (10, 112), (1071, 4), (1072, 3)], 1073, 1368, z113⟩),
 (114, ⟨.strct [(0, 98), (1, 102), (10, 112), (1071, 4), (1072, 3)], 1073, 1368, z114⟩),
 (115, ⟨.func, 1, 8, ([.nilF] : List AV)⟩),
 (117, ⟨.func, 1, 8, ([.nilF] : List AV)⟩),
 (118, ⟨.func, 1, 8, ([.nilF] : List AV)⟩),
 (120, ⟨.func, 1, 8, ([.nilF] : List AV)⟩),
 (121, ⟨.func, 1, 8, ([.nilF] : List AV)⟩),
 (122, ⟨.func, 1, 8, ([.nilF] : List AV)⟩),
 (123, ⟨.strct [(0, 3), (1, 3), (2, 3)], 3, 24, ([.int .i64 0, .int .i64 0, .int .i64 0] : List AV)⟩),
 (124, ⟨.strct [(0, 3), (1, 3), (2, 3)], 3, 24, ([.int .i64 0, .int .i64 0, .int .i64 0] : List AV)⟩),
 (125, ⟨.func, 1, 8, ([.nilF] : List AV)⟩),
 (126, ⟨.func, 1, 8, ([.nilF] : List AV)⟩),
 (127, ⟨.func, 1, 8, ([.nilF] : List AV)⟩),
 (128, ⟨.func, 1, 8, ([.nilF] : List AV)⟩),
 (129, ⟨.strct [(0, 43), (3, 3), (4, 3), (5, 3), (6, 3), (7, 3), (8, 3), (9, 9)], 10, 88, ([.int .i64 0, .int .i64 0, .int .i64 0, .int .i64 0, .int .i64 0, .int .i64 0, .int .i64 0, .int .i64 0, .int .i64 0, .str ByteArray.empty] : List AV)⟩),
 (130, ⟨.strct [(0, 43), (3, 3), (4, 3), (5, 3), (6, 3), (7, 3), (8, 3), (9, 9)], 10, 88, ([.int .i64 0, .int .i64 0, .int .i64 0, .int .i64 0, .int .i64 0, .int .i64 0, .int .i64 0, .int .i64 0, .int .i64 0, .str ByteArray.empty] : List AV)⟩),
 (132, ⟨.func, 1, 8, ([.nilF] : List AV)⟩),
 (133, ⟨.func, 1, 8, ([.nilF] : List AV)⟩),
 (134, ⟨.func, 1, 8, ([.nilF] : List AV)⟩),
 (135, ⟨.func, 1, 8, ([.nilF] : List AV)⟩),
 (136, ⟨.func, 1, 8, ([.nilF] : List AV)⟩),
 (137, ⟨.strct [(0, 4), (1, 4)], 2, 2, ([.bool false, .bool false] : List AV)⟩),
 (138, ⟨.strct [(0, 4), (1, 4)], 2, 2, ([.bool false, .bool false] : List AV)⟩),
 (139, ⟨.slice 43, 1, 24, ([.nsl] : List AV)⟩),
 (140, ⟨.func, 1, 8, ([.nilF] : List AV)⟩),
 (141, ⟨.func, 1, 8, ([.nilF] : List AV)⟩),
 (142, ⟨.func, 1, 8, ([.nilF] : List AV)⟩),
 (143, ⟨.func, 1, 8, ([.nilF] : List AV)⟩),
 (144, ⟨.strct [(0, 24), (1, 73), (2, 4)], 3, 24, ([.nilp, .nilp, .bool false] : List AV)⟩),
 (145, ⟨.strct [(0, 24), (1, 73), (2, 4)], 3, 24, ([.nilp, .nilp, .bool false] : List AV)⟩),
 (146, ⟨.func, 1, 8, ([.nilF] : List AV)⟩),
 (147, ⟨.func, 1, 8, ([.nilF] : List AV)⟩),
 (148, ⟨.func, 1, 8, ([.nilF] : List AV)⟩),
 (149, ⟨.ptr 154, 1, 8, ([.nilp] : List AV)⟩),
 (151, ⟨.func, 1, 8, ([.nilF] : List AV)⟩),
 (152, ⟨.func, 1, 8, ([.nilF] : List AV)⟩),
 (153, ⟨.opq, 2, 24, ([.int .i64 0, .nilI] : List AV)⟩),
 (154, ⟨.opq, 2, 24, ([.int .i64 0, .nilI] : List AV)⟩),
 (155, ⟨.func, 1, 8, ([.nilF] : List AV)⟩),
 (156, ⟨.func, 1, 8, ([.nilF] : List AV)⟩),
 (157, ⟨.ptr 222, 1, 8, ([.nilp] : List AV)⟩),
 (158, ⟨.func, 1, 8, ([.nilF] : List AV)⟩),
 (159, ⟨.func, 1, 8, ([.nilF] : List AV)⟩),
 (160, ⟨.strct [(0, 29), (1, 3)], 2, 32, ([.nsl, .int .i64 0] : List AV)⟩),
 (161, ⟨.strct [(0, 29), (1, 3)], 2, 32, ([.nsl, .int .i64 0] : List AV)⟩),
 (162, ⟨.arr 4 161, 8, 128, ([.nsl, .int .i64 0, .nsl, .int .i64 0, .nsl, .int .i64 0, .nsl, .int .i64 0] : List AV)⟩),
 (163, ⟨.arr 4 29, 4, 96, ([.nsl, .nsl, .nsl, .nsl] : List AV)⟩),
 (164, ⟨.strct [(0, 3), (1, 157), (2, 87), (24, 162), (32, 163), (36, 3)], 37, 272, (([.int .i64 0] : List AV)) ++ (([.nilp] : List AV)) ++ (((repl 4 (([.bool false, .bool false, .bool false, .bool false] : List AV)))) ++ (([.bool false] : List AV)) ++ (([.bool false] : List AV)) ++ (([.bool false] : List AV)) ++ (([.bool false] : List AV)) ++ (([.int .u8 0] : List AV)) ++ (([.bool false] : List AV))) ++ (([.nsl, .int .i64 0, .nsl, .int .i64 0, .nsl, .int .i64 0, .nsl, .int .i64 0] : List AV)) ++ (([.nsl, .nsl, .nsl, .nsl] : List AV)) ++ (([.int .i64 0] : List AV))⟩),
 (165, ⟨.strct [(0, 3), (1, 157), (2, 87), (24, 162), (32, 163), (36, 3)], 37, 272, (([.int .i64 0] : List AV)) ++ (([.nilp] : List AV)) ++ (((repl 4 (([.bool false, .bool false, .bool false, .bool false] : List AV)))) ++ (([.bool false] : List AV)) ++ (([.bool false] : List AV)) ++ (([.bool false] : List AV)) ++ (([.bool false] : List AV)) ++ (([.int .u8 0] : List AV)) ++ (([.bool false] : List AV))) ++ (([.nsl, .int .i64 0, .nsl, .int .i64 0, .nsl, .int .i64 0, .nsl, .int .i64 0] : List AV)) ++ (([.nsl, .nsl, .nsl, .nsl] : List AV)) ++ (([.int .i64 0] : List AV))⟩),
 (166, ⟨.func, 1, 8, ([.nilF] : List AV)⟩),
 (168, ⟨.func, 1, 8, ([.nilF] : List AV)⟩),
 (169, ⟨.func, 1, 8, ([.nilF] : List AV)⟩),
 (170, ⟨.func, 1, 8, ([.nilF] : List AV)⟩),
 (171, ⟨.func, 1, 8, ([.nilF] : List AV)⟩),
 (172, ⟨.func, 1, 8, ([.nilF] : List AV)⟩),
 (173, ⟨.func, 1, 8, ([.nilF] : List AV)⟩),
 (174, ⟨.func, 1, 8, ([.nilF] : List AV)⟩),
 (175, ⟨.ptr 239, 1, 8, ([.nilp] : List AV)⟩),
 (177, ⟨.func, 1, 8, ([.nilF] : List AV)⟩),
 (178, ⟨.strct [(0, 4), (1, 112), (1062, 106), (1077, 29), (1078, 4), (1079, 3), (1080, 4)], 1081, 1368, z178⟩),
 (179, ⟨.strct [(0, 4), (1, 112), (1062, 106), (1077, 29), (1078, 4), (1079, 3), (1080, 4)], 1081, 1368, z179⟩),
 (180, ⟨.arr 9 179, 9729, 12312, z180⟩),
 (181, ⟨.strct [(0, 43), (3, 3), (4, 3), (5, 3), (6, 3), (7, 3), (8, 3), (9, 9)], 10, 88, ([.int .i64 0, .int .i64 0, .int .i64 0, .int .i64 0, .int .i64 0, .int .i64 0, .int .i64 0, .int .i64 0, .int .i64 0, .str ByteArray.empty] : List AV)⟩),
 (182, ⟨.strct [(0, 175), (1, 180), (9730, 181), (9740, 4)], 9741, 12416, z182⟩),
 (183, ⟨.strct [(0, 175), (1, 180), (9730, 181), (9740, 4)], 9741, 12416, z183⟩),
 (184, ⟨.strct [(0, 3), (1, 3), (2, 3), (3, 3), (4, 29)], 5, 56, ([.int .i64 0, .int .i64 0, .int .i64 0, .int .i64 0, .nsl] : List AV)⟩),
 (185, ⟨.strct [(0, 3), (1, 3), (2, 3), (3, 3), (4, 29)], 5, 56, ([.int .i64 0, .int .i64 0, .int .i64 0, .int .i64 0, .nsl] : List AV)⟩),
 (187, ⟨.func, 1, 8, ([.nilF] : List AV)⟩),
 (188, ⟨.func, 1, 8, ([.nilF] : List AV)⟩),
 (189, ⟨.func, 1, 8, ([.nilF] : List AV)⟩),
 (191, ⟨.func, 1, 8, ([.nilF] : List AV)⟩),
 (192, ⟨.func, 1, 8, ([.nilF] : List AV)⟩),
 (193, ⟨.func, 1, 8, ([.nilF] : List AV)⟩),
 (194, ⟨.func, 1, 8, ([.nilF] : List AV)⟩),
 (195, ⟨.func, 1, 8, ([.nilF] : List AV)⟩),
 (196, ⟨.func, 1, 8, ([.nilF] : List AV)⟩),
 (197, ⟨.func, 1, 8, ([.nilF] : List AV)⟩),
 (198, ⟨.func, 1, 8, ([.nilF] : List AV)⟩),
 (199, ⟨.func, 1, 8, ([.nilF] : List AV)⟩),
 (200, ⟨.arr 3 5, 3, 3, ([.int .u8 0, .int .u8 0, .int .u8 0] : List AV)⟩),
 (201, ⟨.func, 1, 8, ([.nilF] : List AV)⟩),
 (202, ⟨.func, 1, 8, ([.nilF] : List AV)⟩),
 (203, ⟨.func, 1, 8, ([.nilF] : List AV)⟩),
 (204, ⟨.func, 1, 8, ([.nilF] : List AV)⟩),
 (205, ⟨.func, 1, 8, ([.nilF] : List AV)⟩),
 (206, ⟨.func, 1, 8, ([.nilF] : List AV)⟩),
 (208, ⟨.func, 1, 8, ([.nilF] : List AV)⟩),
 (209, ⟨.func, 1, 8, ([.nilF] : List AV)⟩),
 (210, ⟨.func, 1, 8, ([.nilF] : List AV)⟩),
 (211, ⟨.slice 26, 1, 24, ([.nsl] : List AV)⟩),
 (212, ⟨.func, 1, 8, ([.nilF] : List AV)⟩),
 (213, ⟨.func, 1, 8, ([.nilF] : List AV)⟩),
 (214, ⟨.func, 1, 8, ([.nilF] : List AV)⟩),
 (215, ⟨.strct [(0, 3), (1, 3), (2, 4), (3, 4), (4, 3), (5, 3), (6, 4), (7, 3), (8, 4), (9, 4)], 10, 64, ([.int .i64 0, .int .i64 0, .bool false, .bool false, .int .i64 0, .int .i64 0, .bool false, .int .i64 0, .bool false, .bool false] : List AV)⟩),
 (216, ⟨.strct [(0, 3), (1, 3), (2, 4), (3, 4), (4, 3), (5, 3), (6, 4), (7, 3), (8, 4), (9, 4)], 10, 64, ([.int .i64 0, .int .i64 0, .bool false, .bool false, .int .i64 0, .int .i64 0, .bool false, .int .i64 0, .bool false, .bool false] : List AV)⟩),
 (217, ⟨.arr 40 216, 400, 2560, repl 40 (([.int .i64 0, .int .i64 0, .bool false, .bool false, .int .i64 0, .int .i64 0, .bool false, .int .i64 0, .bool false, .bool false] : List AV))⟩),
 (218, ⟨.arr 25 217, 10000, 64000, repl 25 (repl 40 (([.int .i64 0, .int .i64 0, .bool false, .bool false, .int .i64 0, .int .i64 0, .bool false, .int .i64 0, .bool false, .bool false] : List AV)))⟩),
 (219, ⟨.strct [(0, 3), (1, 3), (2, 3), (3, 3), (4, 3), (5, 3), (6, 3)], 7, 56, ([.int .i64 0, .int .i64 0, .int .i64 0, .int .i64 0, .int .i64 0, .int .i64 0, .int .i64 0] : List AV)⟩),
 (220, ⟨.strct [(0, 3), (1, 3), (2, 3), (3, 3), (4, 3), (5, 3), (6, 3)], 7, 56, ([.int .i64 0, .int .i64 0, .int .i64 0, .int .i64 0, .int .i64 0, .int .i64 0, .int .i64 0] : List AV)⟩),
 (221, ⟨.strct [(0, 81), (14, 218), (10014, 4), (10015, 3), (10016, 3), (10017, 220)], 10024, 64136, ((([.int .i64 0] : List AV)) ++ (([.int .i64 0] : List AV)) ++ (([.int .i64 0] : List AV)) ++ (([.int .i64 0] : List AV)) ++ (([.bool false] : List AV)) ++ (([.bool false] : List AV)) ++ (([.bool false] : List AV)) ++ (([.bool false] : List AV)) ++ (([.bool false] : List AV)) ++ (([.bool false] : List AV)) ++ (([.bool false] : List AV)) ++ (([.bool false] : List AV)) ++ (([.bool false] : List AV)) ++ (([.int .i64 0] : List AV))) ++ (repl 25 (repl 40 (([.int .i64 0, .int .i64 0, .bool false, .bool false, .int .i64 0, .int .i64 0, .bool false, .int .i64 0, .bool false, .bool false] : List AV)))) ++ (([.bool false] : List AV)) ++ (([.int .i64 0] : List AV)) ++ (([.int .i64 0] : List AV)) ++ (([.int .i64 0, .int .i64 0, .int .i64 0, .int .i64 0, .int .i64 0, .int .i64 0, .int .i64 0] : List AV))⟩),
 (222, ⟨.strct [(0, 81), (14, 218), (10014, 4), (10015, 3), (10016, 3), (10017, 220)], 10024, 64136, ((([.int .i64 0] : List AV)) ++ (([.int .i64 0] : List AV)) ++ (([.int .i64 0] : List AV)) ++ (([.int .i64 0] : List AV)) ++ (([.bool false] : List AV)) ++ (([.bool false] : List AV)) ++ (([.bool false] : List AV)) ++ (([.bool false] : List AV)) ++ (([.bool false] : List AV)) ++ (([.bool false] : List AV)) ++ (([.bool false] : List AV)) ++ (([.bool false] : List AV)) ++ (([.bool false] : List AV)) ++ (([.int .i64 0] : List AV))) ++ (repl 25 (repl 40 (([.int .i64 0, .int .i64 0, .bool false, .bool false, .int .i64 0, .int .i64 0, .bool false, .int .i64 0, .bool false, .bool false] : List AV)))) ++ (([.bool false] : List AV)) ++ (([.int .i64 0] : List AV)) ++ (([.int .i64 0] : List AV)) ++ (([.int .i64 0, .int .i64 0, .int .i64 0, .int .i64 0, .int .i64 0, .int .i64 0, .int .i64 0] : List AV))⟩),
 (223, ⟨.func, 1, 8, ([.nilF] : List AV)⟩),
 (224, ⟨.func, 1, 8, ([.nilF] : List AV)⟩),
 (225, ⟨.func, 1, 8, ([.nilF] : List AV)⟩),
 (226, ⟨.func, 1, 8, ([.nilF] : List AV)⟩),
 (227, ⟨.func, 1, 8, ([.nilF] : List AV)⟩),
 (228, ⟨.func, 1, 8, ([.nilF] : List AV)⟩),
 (229, ⟨.ptr 85, 1, 8, ([.nilp] : List AV)⟩),
 (230, ⟨.func, 1, 8, ([.nilF] : List AV)⟩),
 (231, ⟨.func, 1, 8, ([.nilF] : List AV)⟩),
 (232, ⟨.func, 1, 8, ([.nilF] : List AV)⟩),
 (233, ⟨.func, 1, 8, ([.nilF] : List AV)⟩),
 (235, ⟨.func, 1, 8, ([.nilF] : List AV)⟩),
 (236, ⟨.func, 1, 8, ([.nilF] : List AV)⟩),
 (237, ⟨.map 43 112, 1, 8, ([.nilM] : List AV)⟩),
 (238, ⟨.strct [(0, 3), (1, 237), (2, 139), (3, 43), (6, 4)], 7, 72, ([.int .i64 0, .nilM, .nsl, .int .i64 0, .int .i64 0, .int .i64 0, .bool false] : List AV)⟩),
 (239, ⟨.strct [(0, 3), (1, 237), (2, 139), (3, 43), (6, 4)], 7, 72, ([.int .i64 0, .nilM, .nsl, .int .i64 0, .int .i64 0, .int .i64 0, .bool false] : List AV)⟩),
 (241, ⟨.func, 1, 8, ([.nilF] : List AV)⟩),
 (242, ⟨.func, 1, 8, ([.nilF] : List AV)⟩),
 (244, ⟨.func, 1, 8, ([.nilF] : List AV)⟩),
 (245, ⟨.ptr 179, 1, 8, ([.nilp] : List AV)⟩),
 (246, ⟨.func, 1, 8, ([.nilF] : List AV)⟩),
 (247, ⟨.func, 1, 8, ([.nilF] : List AV)⟩),
 (249, ⟨.func, 1, 8, ([.nilF] : List AV)⟩),
 (250, ⟨.func, 1, 8, ([.nilF] : List AV)⟩),
 (252, ⟨.func, 1, 8, ([.nilF] : List AV)⟩),
 (253, ⟨.func, 1, 8, ([.nilF] : List AV)⟩),
 (254, ⟨.ptr 181, 1, 8, ([.nilp] : List AV)⟩),
 (255, ⟨.func, 1, 8, ([.nilF] : List AV)⟩),
 (256, ⟨.func, 1, 8, ([.nilF] : List AV)⟩),
 (257, ⟨.func, 1, 8, ([.nilF] : List AV)⟩),
 (258, ⟨.func, 1, 8, ([.nilF] : List AV)⟩),
 (259, ⟨.ptr 261, 1, 8, ([.nilp] : List AV)⟩),
 (260, ⟨.strct [(0, 259), (1, 29)], 2, 32, ([.nilp, .nsl] : List AV)⟩),
 (261, ⟨.strct [(0, 259), (1, 29)], 2, 32, ([.nilp, .nsl] : List AV)⟩),
 (262, ⟨.func, 1, 8, ([.nilF] : List AV)⟩),
 (263, ⟨.func, 1, 8, ([.nilF] : List AV)⟩),
 (264, ⟨.func, 1, 8, ([.nilF] : List AV)⟩),
 (265, ⟨.slice 304, 1, 24, ([.nsl] : List AV)⟩),
 (266, ⟨.func, 1, 8, ([.nilF] : List AV)⟩),
 (267, ⟨.func, 1, 8, ([.nilF] : List AV)⟩),
 (269, ⟨.func, 1, 8, ([.nilF] : List AV)⟩),
 (270, ⟨.func, 1, 8, ([.nilF] : List AV)⟩),
 (271, ⟨.func, 1, 8, ([.nilF] : List AV)⟩),
 (272, ⟨.func, 1, 8, ([.nilF] : List AV)⟩),
 (274, ⟨.func, 1, 8, ([.nilF] : List AV)⟩),
 (275, ⟨.func, 1, 8, ([.nilF] : List AV)⟩),
 (276, ⟨.func, 1, 8, ([.nilF] : List AV)⟩),
 (278, ⟨.func, 1, 8, ([.nilF] : List AV)⟩),
 (279, ⟨.ptr 161, 1, 8, ([.nilp] : List AV)⟩),
 (280, ⟨.func, 1, 8, ([.nilF] : List AV)⟩),
 (281, ⟨.slice 220, 1, 24, ([.nsl] : List AV)⟩),
 (282, ⟨.func, 1, 8, ([.nilF] : List AV)⟩),
 (283, ⟨.func, 1, 8, ([.nilF] : List AV)⟩),
 (284, ⟨.func, 1, 8, ([.nilF] : List AV)⟩),
 (285, ⟨.func, 1, 8, ([.nilF] : List AV)⟩),
 (286, ⟨.func, 1, 8, ([.nilF] : List AV)⟩),
 (287, ⟨.func, 1, 8, ([.nilF] : List AV)⟩),
 (289, ⟨.func, 1, 8, ([.nilF] : List AV)⟩),
 (290, ⟨.func, 1, 8, ([.nilF] : List AV)⟩),
 (291, ⟨.func, 1, 8, ([.nilF] : List AV)⟩),
 (292, ⟨.func, 1, 8, ([.nilF] : List AV)⟩),
 (293, ⟨.func, 1, 8, ([.nilF] : List AV)⟩),
 (295, ⟨.func, 1, 8, ([.nilF] : List AV)⟩),
 (296, ⟨.func, 1, 8, ([.nilF] : List AV)⟩),
 (298, ⟨.func, 1, 8, ([.nilF] : List AV)⟩),
 (299, ⟨.func, 1, 8, ([.nilF] : List AV)⟩),
 (300, ⟨.ptr 5, 1, 8, ([.nilp] : List AV)⟩),
 (301, ⟨.func, 1, 8, ([.nilF] : List AV)⟩),
 (302, ⟨.func, 1, 8, ([.nilF] : List AV)⟩),
 (303, ⟨.strct [(0, 3), (1, 3), (2, 3)], 3, 24, ([.int .i64 0, .int .i64 0, .int .i64 0] : List AV)⟩),
 (304, ⟨.strct [(0, 3), (1, 3), (2, 3)], 3, 24, ([.int .i64 0, .int .i64 0, .int .i64 0] : List AV)⟩),
 (305, ⟨.strct [(0, 3), (1, 3), (2, 4), (3, 4), (4, 4), (5, 4), (6, 4), (7, 4), (8, 4), (9, 3), (10, 5)], 11, 40, ([.int .i64 0, .int .i64 0, .bool false, .bool false, .bool false, .bool false, .bool false, .bool false, .bool false, .int .i64 0, .int .u8 0] : List AV)⟩),
 (306, ⟨.strct [(0, 3), (1, 3), (2, 4), (3, 4), (4, 4), (5, 4), (6, 4), (7, 4), (8, 4), (9, 3), (10, 5)], 11, 40, ([.int .i64 0, .int .i64 0, .bool false, .bool false, .bool false, .bool false, .bool false, .bool false, .bool false, .int .i64 0, .int .u8 0] : List AV)⟩),
 (307, ⟨.func, 1, 8, ([.nilF] : List AV)⟩),
 (309, ⟨.func, 1, 8, ([.nilF] : List AV)⟩),
 (310, ⟨.ptr 112, 1, 8, ([.nilp] : List AV)⟩),
 (311, ⟨.func, 1, 8, ([.nilF] : List AV)⟩),
 (312, ⟨.func, 1, 8, ([.nilF] : List AV)⟩),
 (313, ⟨.func, 1, 8, ([.nilF] : List AV)⟩),
 (314, ⟨.func, 1, 8, ([.nilF] : List AV)⟩),
 (315, ⟨.func, 1, 8, ([.nilF] : List AV)⟩),
 (316, ⟨.func, 1, 8, ([.nilF] : List AV)⟩),
 (317, ⟨.func, 1, 8, ([.nilF] : List AV)⟩),
 (318, ⟨.func, 1, 8, ([.nilF] : List AV)⟩),
 (319, ⟨.func, 1, 8, ([.nilF] : List AV)⟩),
 (320, ⟨.func, 1, 8, ([.nilF] : List AV)⟩),
 (321, ⟨.func, 1, 8, ([.nilF] : List AV)⟩),
 (322, ⟨.func, 1, 8, ([.nilF] : List AV)⟩),
 (323, ⟨.func, 1, 8, ([.nilF] : List AV)⟩),
 (324, ⟨.func, 1, 8, ([.nilF] : List AV)⟩),
 (325, ⟨.func, 1, 8, ([.nilF] : List AV)⟩),
 (326, ⟨.func, 1, 8, ([.nilF] : List AV)⟩),
 (327, ⟨.func, 1, 8, ([.nilF] : List AV)⟩),
 (328, ⟨.func, 1, 8, ([.nilF] : List AV)⟩),
 (330, ⟨.func, 1, 8, ([.nilF] : List AV)⟩),
 (331, ⟨.int .u32, 1, 4, ([.int .u32 0] : List AV)⟩),
 (332, ⟨.func, 1, 8, ([.nilF] : List AV)⟩),
 (333, ⟨.func, 1, 8, ([.nilF] : List AV)⟩),
 (335, ⟨.func, 1, 8, ([.nilF] : List AV)⟩),
 (336, ⟨.arr 8 3, 8, 64, ([.int .i64 0, .int .i64 0, .int .i64 0, .int .i64 0, .int .i64 0, .int .i64 0, .int .i64 0, .int .i64 0] : List AV)⟩),
 (337, ⟨.arr 7 336, 56, 448, repl 7 (([.int .i64 0, .int .i64 0, .int .i64 0, .int .i64 0, .int .i64 0, .int .i64 0, .int .i64 0, .int .i64 0] : List AV))⟩),
 (338, ⟨.func, 1, 8, ([.nilF] : List AV)⟩),
 (339, ⟨.func, 1, 8, ([.nilF] : List AV)⟩),
 (341, ⟨.func, 1, 8, ([.nilF] : List AV)⟩),
 (342, ⟨.func, 1, 8, ([.nilF] : List AV)⟩),
 (343, ⟨.func, 1, 8, ([.nilF] : List AV)⟩),
 (344, ⟨.func, 1, 8, ([.nilF] : List AV)⟩),
 (345, ⟨.func, 1, 8, ([.nilF] : List AV)⟩),
 (346, ⟨.slice 217, 1, 24, ([.nsl] : List AV)⟩),
 (347, ⟨.func, 1, 8, ([.nilF] : List AV)⟩),
 (348, ⟨.func, 1, 8, ([.nilF] : List AV)⟩),
 (349, ⟨.func, 1, 8, ([.nilF] : List AV)⟩),
 (350, ⟨.func, 1, 8, ([.nilF] : List AV)⟩),
 (352, ⟨.func, 1, 8, ([.nilF] : List AV)⟩),
 (353, ⟨.int .u64, 1, 8, ([.int .u64 0] : List AV)⟩),
 (355, ⟨.func, 1, 8, ([.nilF] : List AV)⟩),
 (356, ⟨.arr 96 3, 96, 768, repl 96 (([.int .i64 0] : List AV))⟩),
 (357, ⟨.func, 1, 8, ([.nilF] : List AV)⟩),
 (358, ⟨.slice 361, 1, 24, ([.nsl] : List AV)⟩),
 (359, ⟨.func, 1, 8, ([.nilF] : List AV)⟩),
 (360, ⟨.strct [(0, 5), (1, 3)], 2, 16, ([.int .u8 0, .int .i64 0] : List AV)⟩),
 (361, ⟨.strct [(0, 5), (1, 3)], 2, 16, ([.int .u8 0, .int .i64 0] : List AV)⟩),
 (362, ⟨.func, 1, 8, ([.nilF] : List AV)⟩),
 (363, ⟨.func, 1, 8, ([.nilF] : List AV)⟩),
 (364, ⟨.func, 1, 8, ([.nilF] : List AV)⟩),
 (365, ⟨.ptr 3, 1, 8, ([.nilp] : List AV)⟩),
 (366, ⟨.slice 365, 1, 24, ([.nsl] : List AV)⟩),
 (367, ⟨.func, 1, 8, ([.nilF] : List AV)⟩),
 (368, ⟨.func, 1, 8, ([.nilF] : List AV)⟩),
 (369, ⟨.arr 13 3, 13, 104, repl 13 (([.int .i64 0] : List AV))⟩),
 (370, ⟨.strct [(0, 9), (1, 369)], 14, 120, (([.str ByteArray.empty] : List AV)) ++ (repl 13 (([.int .i64 0] : List AV)))⟩),
 (371, ⟨.strct [(0, 9), (1, 369)], 14, 120, (([.str ByteArray.empty] : List AV)) ++ (repl 13 (([.int .i64 0] : List AV)))⟩),
 (372, ⟨.slice 371, 1, 24, ([.nsl] : List AV)⟩),
 (373, ⟨.func, 1, 8, ([.nilF] : List AV)⟩),
 (374, ⟨.func, 1, 8, ([.nilF] : List AV)⟩),
 (375, ⟨.arr 2 3, 2, 16, ([.int .i64 0, .int .i64 0] : List AV)⟩),
 (376, ⟨.ptr 390, 1, 8, ([.nilp] : List AV)⟩),
 (377, ⟨.opq, 4, 40, ([.nilp, .nilp, .nilp, .str ByteArray.empty] : List AV)⟩),
 (378, ⟨.opq, 4, 40, ([.nilp, .nilp, .nilp, .str ByteArray.empty] : List AV)⟩),
 (379, ⟨.arr 0 16, 0, 0, ([] : List AV)⟩),
 (380, ⟨.opq, 0, 0, ([] : List AV)⟩),
 (381, ⟨.opq, 0, 0, ([] : List AV)⟩),
 (382, ⟨.int .u8, 1, 1, ([.int .u8 0] : List AV)⟩),
 (383, ⟨.int .u8, 1, 1, ([.int .u8 0] : List AV)⟩),
 (384, ⟨.func, 1, 8, ([.nilF] : List AV)⟩),
 (385, ⟨.int .i32, 1, 4, ([.int .i32 0] : List AV)⟩),
 (386, ⟨.int .i32, 1, 4, ([.int .i32 0] : List AV)⟩),
 (387, ⟨.opq, 11, 48, ([.int .u64 0, .int .u64 0, .int .u32 0, .int .u8 0, .int .u8 0, .int .u8 0, .int .u8 0, .nilF, .nilp, .int .i32 0, .int .i32 0] : List AV)⟩),
 (388, ⟨.opq, 11, 48, ([.int .u64 0, .int .u64 0, .int .u32 0, .int .u8 0, .int .u8 0, .int .u8 0, .int .u8 0, .nilF, .nilp, .int .i32 0, .int .i32 0] : List AV)⟩),
 (389, ⟨.strct [(0, 9)], 1, 16, ([.str ByteArray.empty] : List AV)⟩),
 (390, ⟨.strct [(0, 9)], 1, 16, ([.str ByteArray.empty] : List AV)⟩),
 (391, ⟨.func, 1, 8, ([.nilF] : List AV)⟩)]
noncomputable def L (t : Nat) : Option TI := aget t Ls
@[simp] theorem L149 : L 149 = some ⟨.ptr 154, 1, 8, ([.nilp] : List AV)⟩ := by kernel_rfl
@[simp] theorem L154 : L 154 = some ⟨.opq, 2, 24, ([.int .i64 0, .nilI] : List AV)⟩ := by kernel_rfl
noncomputable def a7 : AFn := mkA Tryz.f7 [0, 1, 4, 10, 11, 12, 13, 14, 15, 16, 17, 18, 19, 20, 21, 24, 27, 45, 64, 82, 96, 122] [(15, [0, 1, 2, 4, 12, 14, 15, 16], [37, 55, 76, 78]), (20, [0, 1, 2, 4, 12, 14, 15, 17], [37, 55, 76, 78]), (25, [0, 1, 2, 4, 12, 15, 18, 19], [18, 37])] [78] [] [] [] [78, 92, 125, 143] [37, 78, 90, 92, 125, 143] [] [] [] []
noncomputable def a8 : AFn := mkA Tryz.f8 [4, 5, 6, 7, 8, 9, 10, 11, 12, 13, 14, 15, 17, 20, 42, 46, 64] [(10, [0, 1, 5, 7, 9], [22, 26])] [] [] [] [] [80, 85, 89, 91, 95, 97] [22, 26, 68, 71, 74, 77, 80, 85, 89, 91, 95, 97] [] [] [] []
noncomputable def a9 : AFn := mkA Tryz.f9 [2, 3, 4, 5, 6, 8, 9, 10, 11, 12, 13, 15, 18, 21, 43, 44, 45, 46, 47, 64, 83] [(10, [0, 3, 5, 44, 45, 46], [23, 27, 44]), (18, [0, 3, 5, 9, 10], [9, 23, 27, 94])] [9] [] [] [] [97, 102, 106, 108, 126, 128] [23, 27, 53, 57, 60, 75, 90, 97, 102, 106, 108, 126, 128] [] [] [] []
noncomputable def a11 : AFn := mkA Tryz.f11 [0, 1, 2, 12] [] [] [] [] [] [14] [4, 14, 20] [] [] [] []
noncomputable def a12 : AFn := mkA Tryz.f12 [2, 3, 4, 5, 12] [] [] [] [] [] [] [8] [] [] [] []
noncomputable def a15 : AFn := mkA Tryz.f15 [4] [] [] [] [] [] [] [] [] [] [] []
noncomputable def a16 : AFn := mkA Tryz.f16 [2, 4, 6, 8, 9, 14, 88] [] [] [] [(19, [1]), (25, [1]), (26, [78, 3000002]), (43, [1]), (48, [1]), (53, [1]), (55, [3003151]), (59, [1]), (60, [3000013, 3000016]), (61, []), (66, [1]), (73, [1]), (74, [222, 3000002])] [(3, 3), (6, 6), (7, 7)] [26, 74] [26, 74] [] [] [] []
noncomputable def a17 : AFn := mkA Tryz.f17 [2] [] [] [] [(7, [1]), (11, [1]), (17, [1]), (21, [1]), (22, [3000013, 3000016]), (26, [1]), (27, [81, 3000002]), (32, [1])] [(2, 2)] [27] [27] [] [] [] []
noncomputable def a19 : AFn := mkA Tryz.f19 [4, 5, 6, 7, 8, 15, 23] [] [] [] [] [] [] [11, 19] [] [] [] []
noncomputable def a20 : AFn := mkA Tryz.f20 [3, 4] [] [] [] [(6, []), (7, [10]), (8, [])] [] [] [] [] [] [] []
noncomputable def a21 : AFn := mkA Tryz.f21 [3, 4, 6, 7, 16, 22, 28, 34] [] [] [] [(1000000000, [])] [] [] [15, 21, 27, 33, 40] [] [] [] []
noncomputable def a22 : AFn := mkA Tryz.f22 [2, 3, 4, 6, 14, 26] [] [] [] [(31, []), (32, []), (36, [])] [(2, 2)] [] [] [] [] [] []
noncomputable def a23 : AFn := mkA Tryz.f23 [2, 3, 9] [] [39] [10001] [(13, [1]), (14, [42, 3000002]), (18, [1]), (19, [57, 3000002]), (33, [1]), (34, [102, 3000005]), (38, [1]), (39, [117, 3000005]), (41, [10]), (43, [10]), (47, [1]), (48, [144, 3000005])] [(2, 2)] [14, 19, 27, 34, 39, 48] [14, 19, 27, 34, 39, 48] [] [] [] []
noncomputable def a24 : AFn := mkA Tryz.f24 [2, 3, 4, 5, 7, 17] [(2, [2, 3, 5], [2, 3])] [] [] [] [] [] [] [] [] [] []
noncomputable def a25 : AFn := mkA Tryz.f25 [4, 5, 6, 11, 15, 28] [(4, [0, 1, 5], [])] [] [] [] [] [] [] [] [] [] []
noncomputable def a29 : AFn := mkA Tryz.f29 [2, 3, 9] [] [] [] [(1000000001, [])] [] [] [12] [] [] [] [(1, (24, (1, 7000000024))), (1, (26, (1, 7000000026))), (1, (28, (1, 7000000028))), (1, (30, (1, 7000000030))), (1, (32, (1, 7000000032))), (1, (33, (1, 7000000033))), (1, (34, (1, 7000000034))), (1, (35, (1, 7000000035)))]
noncomputable def a30 : AFn := mkA Tryz.f30 [2, 3, 4, 8] [(3, [0, 3, 4], [3, 18])] [2, 3] [] [] [] [] [] [] [] [] []
noncomputable def a31 : AFn := mkA Tryz.f31 [] [] [] [] [] [] [] [6] [] [] [] [(0, (24, (1, 7000000024))), (0, (26, (1, 7000000026))), (0, (28, (1, 7000000028))), (0, (30, (1, 7000000030))), (0, (32, (1, 7000000032))), (0, (33, (1, 7000000033))), (0, (34, (1, 7000000034))), (0, (35, (1, 7000000035)))]
noncomputable def a32 : AFn := mkA Tryz.f32 [2] [] [] [] [] [] [] [] [] [] [] []
noncomputable def a33 : AFn := mkA Tryz.f33 [4, 5, 6, 7, 13, 20] [] [] [] [] [] [] [] [] [] [] []
noncomputable def a34 : AFn := mkA Tryz.f34 [2, 3] [] [] [] [(7, [1]), (8, [3000004]), (12, [1])] [(2, 2), (3, 3)] [] [] [] [] [] []
noncomputable def a35 : AFn := mkA Tryz.f35 [4, 10] [] [4] [] [] [] [] [] [] [] [] []
noncomputable def a36 : AFn := mkA Tryz.f36 [2] [] [] [] [] [] [] [] [] [] [] []
noncomputable def a37 : AFn := mkA Tryz.f37 [4, 5, 11] [] [4] [] [] [] [8] [8] [] [] [] [(0, (24, (1, 7000000024))), (0, (26, (1, 7000000026))), (0, (28, (1, 7000000028))), (0, (30, (1, 7000000030))), (0, (32, (1, 7000000032))), (0, (33, (1, 7000000033))), (0, (34, (1, 7000000034))), (0, (35, (1, 7000000035)))]
noncomputable def a38 : AFn := mkA Tryz.f38 [4, 5, 7, 20, 21, 22, 23, 31, 37] [(3, [0, 4, 5, 20, 21, 22], [0, 1, 13, 14, 20])] [] [] [] [] [] [35, 40] [] [] [] [(0, (24, (1, 7000000024))), (0, (26, (1, 7000000026))), (0, (28, (1, 7000000028))), (0, (30, (1, 7000000030))), (0, (32, (1, 7000000032))), (0, (33, (1, 7000000033))), (0, (34, (1, 7000000034))), (0, (35, (1, 7000000035)))]
noncomputable def a40 : AFn := mkA Tryz.f40 [4] [] [] [] [] [] [] [] [] [] [] []
noncomputable def a41 : AFn := mkA Tryz.f41 [2, 3, 4, 5, 12] [] [] [] [] [] [] [8] [] [] [] []
noncomputable def a42 : AFn := mkA Tryz.f42 [0] [] [] [3, 4] [] [] [] [] [] [] [] []
noncomputable def a50 : AFn := mkA Tryz.f50 [4, 5, 10] [] [] [] [] [] [] [] [] [] [] []
noncomputable def a56 : AFn := mkA Tryz.f56 [4, 5, 6, 19] [] [5] [] [] [] [] [] [] [] [] []
noncomputable def a57 : AFn := mkA Tryz.f57 [4, 8, 9, 10, 24, 35, 48] [(4, [1, 2, 3, 4, 8, 9], [4, 8])] [] [] [] [] [] [] [] [] [] []
noncomputable def a58 : AFn := mkA Tryz.f58 [0, 1, 2, 3, 4] [(3, [0, 1, 3], [0, 1])] [] [] [] [] [] [] [] [] [] []
noncomputable def a59 : AFn := mkA Tryz.f59 [1, 2, 3, 4, 5, 13] [] [] [] [] [] [] [] [] [] [] []
noncomputable def a60 : AFn := mkA Tryz.f60 [2, 3, 4, 5, 12, 13, 14, 27] [(3, [3, 4, 12, 13], [8])] [] [] [] [] [] [] [] [] [] []
noncomputable def a62 : AFn := mkA Tryz.f62 [2] [] [2] [] [] [] [7] [7] [] [] [] []
noncomputable def a65 : AFn := mkA Tryz.f65 [2, 3, 7] [] [] [] [] [] [] [] [] [] [] []
noncomputable def a66 : AFn := mkA Tryz.f66 [2, 3, 4] [] [] [] [] [] [] [] [] [] [] []
noncomputable def a70 : AFn := mkA Tryz.f70 [3, 4, 6, 8, 13, 16, 17, 26, 35, 38, 39, 40, 41, 51, 54, 55, 56, 57] [(10, [0, 38, 39, 40], [0, 1]), (16, [0, 54, 55, 56], [0, 1])] [] [] [(1000000002, []), (1000000000, [])] [] [] [34, 49, 65] [] [] [] []
noncomputable def a71 : AFn := mkA Tryz.f71 [0] [] [] [] [] [] [] [] [] [] [] []
noncomputable def a72 : AFn := mkA Tryz.f72 [2] [] [] [] [] [] [] [] [] [] [] []
noncomputable def a73 : AFn := mkA Tryz.f73 [2, 3, 4, 9, 17] [(3, [0, 3, 4], [5])] [] [] [] [] [] [5] [] [] [] []
noncomputable def a75 : AFn := mkA Tryz.f75 [2, 3, 4, 5, 7, 17] [(2, [2, 3, 5], [2, 3])] [] [] [] [] [] [] [] [] [] []
noncomputable def a76 : AFn := mkA Tryz.f76 [0, 1, 2, 6, 7] [(3, [1, 6], [5])] [] [] [] [] [] [] [] [] [] []
noncomputable def a77 : AFn := mkA Tryz.f77 [0] [] [] [] [] [] [] [] [] [] [] []
noncomputable def a78 : AFn := mkA Tryz.f78 [6, 8, 15, 16, 17, 18, 27] [(2, [0, 1, 2, 6, 15, 16, 17], [0, 1, 2, 15])] [] [] [] [] [] [32, 39] [] [] [] [(0, (24, (1, 7000000024))), (0, (26, (1, 7000000026))), (0, (28, (1, 7000000028))), (0, (30, (1, 7000000030))), (0, (32, (1, 7000000032))), (0, (33, (1, 7000000033))), (0, (34, (1, 7000000034))), (0, (35, (1, 7000000035)))]
noncomputable def a79 : AFn := mkA Tryz.f79 [2, 3, 4, 5, 6] [(3, [0, 2, 3, 5], [0, 2, 3])] [] [] [] [] [] [] [] [] [] []
noncomputable def a80 : AFn := mkA Tryz.f80 [2, 3, 5, 6, 8, 10, 12, 14] [] [] [] [] [] [] [] [] [] [] []
noncomputable def a81 : AFn := mkA Tryz.f81 [4, 5, 6, 12, 19, 26, 36] [(7, [1, 5, 6], [21])] [] [] [] [] [] [] [] [] [] []
noncomputable def a82 : AFn := mkA Tryz.f82 [1, 6, 7, 8, 12, 13, 14, 18, 24, 31] [] [] [] [] [] [] [] [] [] [] []
noncomputable def a83 : AFn := mkA Tryz.f83 [2] [] [] [] [] [] [] [] [] [] [] []
noncomputable def a84 : AFn := mkA Tryz.f84 [2, 4] [] [2] [] [] [] [] [] [] [] [] []
noncomputable def a85 : AFn := mkA Tryz.f85 [2, 3, 7] [] [] [] [] [] [] [] [] [] [] []
noncomputable def a86 : AFn := mkA Tryz.f86 [2, 3, 5, 6, 7, 8, 9] [(3, [3, 6, 7, 8], [3, 16])] [2, 3] [] [] [] [] [] [] [] [] []
noncomputable def a87 : AFn := mkA Tryz.f87 [2, 4, 5, 16, 26, 37, 41] [] [4] [] [] [] [] [] [] [] [] []
noncomputable def a88 : AFn := mkA Tryz.f88 [6] [] [] [] [] [] [] [] [] [] [] []
noncomputable def a89 : AFn := mkA Tryz.f89 [19, 23] [] [] [] [] [] [] [15] [] [] [] [(0, (24, (1, 7000000024))), (0, (26, (1, 7000000026))), (0, (28, (1, 7000000028))), (0, (30, (1, 7000000030))), (0, (32, (1, 7000000032))), (0, (33, (1, 7000000033))), (0, (34, (1, 7000000034))), (0, (35, (1, 7000000035)))]
noncomputable def y90_0 : YInfo := mkY 1000900 Tryz.f90 2 [0, 5, 6, 8, 9]
noncomputable def a90 : AFn := mkA Tryz.f90 [0, 5, 6, 8, 9, 10, 11, 18, 22, 23, 52] [] [11] [] [(31, [750007]), (32, [750007]), (35, [750004]), (36, [31]), (37, [])] [(41, 250001)] [] [18, 57] [(2, y90_0)] [18] [] [(0, (24, (1, 7000000024))), (0, (26, (1, 7000000026))), (0, (28, (1, 7000000028))), (0, (30, (1, 7000000030))), (0, (32, (1, 7000000032))), (0, (33, (1, 7000000033))), (0, (34, (1, 7000000034))), (0, (35, (1, 7000000035)))]
noncomputable def a91 : AFn := mkA Tryz.f91 [2, 3, 9] [] [] [] [(1000000001, [])] [] [] [] [] [] [] [(1, (2, (3, 7000000002)))]
noncomputable def a108 : AFn := mkA Tryz.f108 [2] [] [] [] [] [] [] [] [] [] [] []
noncomputable def a110 : AFn := mkA Tryz.f110 [0] [] [] [] [] [] [] [] [] [] [] []
noncomputable def a111 : AFn := mkA Tryz.f111 [0, 1, 2, 3, 4] [(3, [0, 1, 3], [0, 1])] [] [] [] [] [] [] [] [] [] []
noncomputable def a113 : AFn := mkA Tryz.f113 [2, 3, 4, 5, 7, 8, 9, 10, 11] [(4, [4, 5, 8, 9, 10], [4, 5, 18, 23])] [2, 3, 4, 5] [] [] [] [] [] [] [] [] []
noncomputable def a116 : AFn := mkA Tryz.f116 [2] [] [2] [] [] [] [] [] [] [] [] []
noncomputable def a120 : AFn := mkA Tryz.f120 [0] [] [0] [] [(1000000001, []), (1000000003, []), (1000000004, []), (1000000000, []), (1000000005, []), (1000000002, [])] [] [] [] [] [] [] []
noncomputable def a121 : AFn := mkA Tryz.f121 [4, 10] [] [] [] [] [] [] [] [] [] [] []
noncomputable def a122 : AFn := mkA Tryz.f122 [2, 3, 4] [] [] [] [] [] [] [] [] [] [] []
noncomputable def a123 : AFn := mkA Tryz.f123 [0, 1, 2, 3, 4] [(3, [0, 1, 3], [0, 1])] [] [] [] [] [] [] [] [] [] []
noncomputable def a124 : AFn := mkA Tryz.f124 [0, 1] [] [] [] [] [] [] [] [] [] [] []
noncomputable def a125 : AFn := mkA Tryz.f125 [2, 4, 5, 6, 7, 8, 9, 10, 11, 12, 14, 15, 16, 17, 21, 25, 53, 62] [(4, [1, 4, 5, 6, 7, 8, 15, 16], [4, 5, 49])] [] [] [] [] [] [] [] [] [] []
noncomputable def a126 : AFn := mkA Tryz.f126 [2, 3, 4, 7, 10, 13, 16, 19, 22, 25, 28, 31, 34, 37] [] [2] [] [] [] [] [] [] [] [] []
noncomputable def a127 : AFn := mkA Tryz.f127 [2, 3, 4, 6, 8, 10, 12, 14] [] [] [] [] [] [] [] [] [] [] []
noncomputable def a128 : AFn := mkA Tryz.f128 [4, 5, 9] [] [] [] [] [] [] [] [] [] [] []
noncomputable def a129 : AFn := mkA Tryz.f129 [2, 5] [] [] [] [] [] [] [] [] [] [] []
noncomputable def a130 : AFn := mkA Tryz.f130 [2, 3, 4, 5, 6, 12, 21] [(4, [0, 4, 5, 6], [7, 8])] [] [] [] [] [] [] [] [] [] []
noncomputable def a131 : AFn := mkA Tryz.f131 [2] [] [] [] [] [] [] [] [] [] [] []
noncomputable def a132 : AFn := mkA Tryz.f132 [2] [] [] [] [] [] [] [] [] [] [] []
noncomputable def a133 : AFn := mkA Tryz.f133 [1, 2, 4, 15] [] [4] [] [] [] [] [] [] [] [] []
noncomputable def a134 : AFn := mkA Tryz.f134 [2, 4, 5, 12] [] [4] [] [] [] [] [] [] [] [] []
noncomputable def a135 : AFn := mkA Tryz.f135 [2] [] [] [] [] [] [] [] [] [] [] []
noncomputable def a136 : AFn := mkA Tryz.f136 [2, 4, 5] [] [7] [] [] [] [7] [7] [] [] [] []
noncomputable def a137 : AFn := mkA Tryz.f137 [3, 5, 6, 11, 17, 25, 31, 35, 43, 49, 60, 69, 72, 73, 79] [] [] [] [] [] [] [] [] [] [] []
noncomputable def a138 : AFn := mkA Tryz.f138 [2, 3, 4, 5, 6, 9, 12, 13, 22, 33] [] [5, 6] [] [] [] [] [] [] [] [] []
noncomputable def a139 : AFn := mkA Tryz.f139 [] [] [] [] [] [] [] [] [] [] [] []
noncomputable def a161 : AFn := mkA Tryz.f161 [0, 2, 3, 5] [(2, [0, 3], [])] [] [] [] [] [] [] [] [] [] []
noncomputable def a165 : AFn := mkA Tryz.f165 [2] [] [] [] [] [] [] [] [] [] [] []
noncomputable def a173 : AFn := mkA Tryz.f173 [2, 4] [] [2] [] [] [] [] [] [] [] [] []
noncomputable def a177 : AFn := mkA Tryz.f177 [0] [] [] [] [] [] [] [] [] [] [] []
noncomputable def a178 : AFn := mkA Tryz.f178 [1, 2, 5] [] [] [] [] [] [] [] [] [] [] []
noncomputable def a179 : AFn := mkA Tryz.f179 [2, 3, 4, 5, 13] [] [] [] [] [] [] [] [] [] [] []
noncomputable def a180 : AFn := mkA Tryz.f180 [4, 5, 9] [] [] [] [] [] [] [] [] [] [] []
noncomputable def a181 : AFn := mkA Tryz.f181 [0, 2, 6] [] [] [] [] [] [] [] [] [] [] []
noncomputable def a182 : AFn := mkA Tryz.f182 [5, 7, 8, 9, 10, 11, 16, 17, 18, 19, 25] [(1, [0, 2, 8, 9, 10], [0, 1, 2]), (4, [0, 2, 8, 9, 10, 16, 17, 18], [0, 1, 2, 16])] [] [] [] [] [] [16, 24] [] [16] [] []
noncomputable def a183 : AFn := mkA Tryz.f183 [4, 5, 6, 11, 13, 19, 33, 45, 46, 54, 59] [] [4, 6, 21, 22, 26, 39, 52, 53, 58, 63, 66] [] [] [] [] [22, 26, 27, 53, 58, 63, 66] [] [22, 26, 53, 58, 63, 66] [] [(0, (0, (1, 7000000000)))]
noncomputable def a184 : AFn := mkA Tryz.f184 [3, 4, 7, 8, 75, 81] [] [] [] [] [] [] [] [] [] [] []
noncomputable def a185 : AFn := mkA Tryz.f185 [9, 12, 13, 14] [(2, [0, 12, 13], [0])] [] [] [] [] [] [] [] [] [] []
noncomputable def a186 : AFn := mkA Tryz.f186 [7, 14, 15, 16, 17, 18, 22, 26, 30] [(3, [0, 1, 14, 15], [0])] [] [] [] [] [] [] [] [] [] []
noncomputable def a187 : AFn := mkA Tryz.f187 [4, 5, 11] [] [] [] [] [] [] [] [] [] [] []
noncomputable def a188 : AFn := mkA Tryz.f188 [] [] [] [] [] [] [] [] [] [] [] []
noncomputable def a189 : AFn := mkA Tryz.f189 [19, 29] [] [] [] [] [] [] [] [] [] [] []
noncomputable def a190 : AFn := mkA Tryz.f190 [4, 17, 35, 36, 45, 64] [] [] [] [] [] [] [] [] [] [] []
noncomputable def a191 : AFn := mkA Tryz.f191 [4, 5, 12, 24, 37] [] [] [] [] [] [] [] [] [] [] []
noncomputable def a192 : AFn := mkA Tryz.f192 [4, 5, 19, 33] [] [] [] [] [] [] [] [] [] [] []
noncomputable def a193 : AFn := mkA Tryz.f193 [2, 4, 5, 6, 7, 11, 17, 23, 27, 31] [] [5] [] [(13, [7]), (14, [7]), (15, []), (16, [])] [(4, 4)] [] [] [] [] [] []
noncomputable def a194 : AFn := mkA Tryz.f194 [3, 6, 7, 8, 9, 10, 11, 14, 16, 21, 30, 37, 46, 53, 58, 61] [] [7] [] [(26, [10]), (27, [10]), (28, []), (29, []), (54, [10]), (55, [10]), (57, [150]), (62, [10]), (63, [10]), (64, []), (65, [])] [(6, 6)] [] [] [] [] [] []
noncomputable def a195 : AFn := mkA Tryz.f195 [4, 8, 9, 10, 11, 12, 13, 14, 31, 40, 52, 56, 66] [] [9] [] [(48, [13]), (49, [13]), (51, [57]), (76, [13]), (77, [13]), (78, []), (79, [])] [(8, 8)] [] [] [] [] [] []
noncomputable def a196 : AFn := mkA Tryz.f196 [2] [] [] [] [] [] [] [] [] [] [] []
noncomputable def a221 : AFn := mkA Tryz.f221 [2] [] [] [] [] [] [] [] [] [] [] []
noncomputable def a222 : AFn := mkA Tryz.f222 [4] [] [4] [] [] [] [] [] [] [] [] [(0, (0, (1, 7000000000)))]
noncomputable def a223 : AFn := mkA Tryz.f223 [0] [] [0] [] [] [] [] [] [] [] [] []
noncomputable def a224 : AFn := mkA Tryz.f224 [4, 5, 6, 16, 21, 26, 29, 39, 42, 45, 48, 51, 54, 57] [] [4, 28, 41, 44, 47, 50, 53, 56, 59, 60] [] [] [] [] [] [] [] [] [(0, (0, (1, 7000000000)))]
noncomputable def a225 : AFn := mkA Tryz.f225 [4] [] [4] [] [] [] [] [] [] [] [] []
noncomputable def a226 : AFn := mkA Tryz.f226 [4] [] [4] [] [] [] [] [] [] [] [] []
noncomputable def a227 : AFn := mkA Tryz.f227 [4, 5, 13, 25] [] [4, 7, 28, 31] [] [] [] [] [28, 31] [] [28, 31] [] [(0, (0, (1, 7000000000)))]
noncomputable def a228 : AFn := mkA Tryz.f228 [4, 5, 11, 26] [] [4, 14, 28, 29, 39] [] [] [] [] [14, 29, 39] [] [14, 29, 39] [] [(0, (0, (1, 7000000000)))]
noncomputable def a229 : AFn := mkA Tryz.f229 [4, 5, 11, 18, 24, 34, 48, 62, 76] [] [4, 23, 33, 47, 60, 61, 75, 86, 87, 89, 90] [] [] [] [] [23, 33, 47, 61, 75, 87, 90] [] [23, 33, 47, 61, 75, 87, 90] [] [(0, (0, (1, 7000000000)))]
noncomputable def a230 : AFn := mkA Tryz.f230 [3, 4, 5, 8, 34, 58] [] [] [] [(9, [10]), (10, []), (15, [1]), (20, [1]), (25, [1]), (63, [1]), (68, [1]), (73, [1])] [(5, 5), (74, 5), (75, 5), (76, 5), (77, 5)] [] [] [] [] [] []
noncomputable def a231 : AFn := mkA Tryz.f231 [5, 8, 9, 10, 11, 13, 15, 16, 17, 18, 25, 84] [(5, [0, 3, 5, 15, 16, 17], [0, 5, 12, 14])] [] [] [] [] [] [] [] [] [] []
noncomputable def a232 : AFn := mkA Tryz.f232 [6, 29, 45] [] [] [] [] [] [] [] [] [] [] []
noncomputable def a233 : AFn := mkA Tryz.f233 [2, 18] [] [] [] [] [] [] [] [] [] [] []
noncomputable def a234 : AFn := mkA Tryz.f234 [2, 18] [] [] [] [] [] [] [] [] [] [] []
noncomputable def a235 : AFn := mkA Tryz.f235 [6, 13, 29] [] [] [] [] [] [] [] [] [] [] []
noncomputable def a236 : AFn := mkA Tryz.f236 [6, 10] [(1, [0, 2, 6], [0])] [] [] [] [] [] [] [] [] [] []
noncomputable def a237 : AFn := mkA Tryz.f237 [8, 12] [(1, [0, 1, 3, 8], [0])] [] [] [] [] [] [] [] [] [] []
noncomputable def a238 : AFn := mkA Tryz.f238 [] [] [] [] [] [] [] [] [] [] [] []
noncomputable def a239 : AFn := mkA Tryz.f239 [4, 11, 20] [] [] [] [] [] [] [] [] [] [] []
noncomputable def a240 : AFn := mkA Tryz.f240 [] [] [] [] [] [] [] [] [] [] [] []
noncomputable def a241 : AFn := mkA Tryz.f241 [4] [] [4] [] [] [] [] [] [] [] [] []
noncomputable def a242 : AFn := mkA Tryz.f242 [1, 2] [] [] [] [] [] [] [] [] [] [] []
noncomputable def a243 : AFn := mkA Tryz.f243 [2, 3, 9] [] [] [] [] [] [] [] [] [] [] []
noncomputable def a244 : AFn := mkA Tryz.f244 [2, 4] [] [4] [] [] [] [] [] [] [] [] []
noncomputable def a245 : AFn := mkA Tryz.f245 [6] [] [6] [] [] [] [] [] [] [] [] []
noncomputable def a246 : AFn := mkA Tryz.f246 [1, 2] [] [] [] [] [] [] [] [] [] [] []
noncomputable def a247 : AFn := mkA Tryz.f247 [2, 3] [] [] [] [] [] [] [] [] [] [] []
noncomputable def a248 : AFn := mkA Tryz.f248 [8, 25] [] [] [] [] [] [] [] [] [] [] []
noncomputable def a261 : AFn := mkA Tryz.f261 [1, 4, 6, 14, 16, 17, 18, 19, 25, 34] [(5, [0, 1, 16, 17, 18], [16])] [] [] [] [] [] [] [] [] [] []
noncomputable def a270 : AFn := mkA Tryz.f270 [2] [] [] [] [] [] [] [] [] [] [] []
noncomputable def a271 : AFn := mkA Tryz.f271 [4] [] [4] [] [] [] [] [12] [] [] [] [(0, (0, (1, 7000000000)))]
noncomputable def a272 : AFn := mkA Tryz.f272 [4, 5, 11, 26] [] [4, 25, 34, 35, 39, 40] [] [] [] [] [25, 35, 40] [] [25, 35, 40] [] [(0, (0, (1, 7000000000)))]
noncomputable def a273 : AFn := mkA Tryz.f273 [4, 5, 6, 7, 8, 9, 10, 31, 38, 39, 40, 41] [(9, [0, 7, 8, 38, 39, 40], [0, 1, 7, 37])] [4, 22, 56] [] [] [] [] [22, 56] [] [22, 56] [] [(0, (0, (1, 7000000000)))]
noncomputable def a274 : AFn := mkA Tryz.f274 [1, 2, 10] [] [] [] [] [] [] [] [] [] [] []
noncomputable def a275 : AFn := mkA Tryz.f275 [4, 5] [] [] [] [] [] [] [] [] [] [] []
noncomputable def a276 : AFn := mkA Tryz.f276 [2, 3] [] [] [] [] [] [] [] [] [] [] []
noncomputable def a277 : AFn := mkA Tryz.f277 [4, 5, 9] [] [] [] [] [] [] [] [] [] [] []
noncomputable def a278 : AFn := mkA Tryz.f278 [4, 5, 6, 7, 8, 13] [(3, [0, 1, 5, 7], [0])] [] [] [] [] [] [] [] [] [] []
noncomputable def a279 : AFn := mkA Tryz.f279 [4, 5, 6, 12] [] [] [] [] [] [] [] [] [] [] []
noncomputable def a287 : AFn := mkA Tryz.f287 [2, 3, 4, 17, 40, 53, 62, 69] [] [2] [] [] [] [] [] [] [] [] []
noncomputable def a288 : AFn := mkA Tryz.f288 [0, 2, 5, 8] [] [] [] [] [] [] [] [] [] [] []
noncomputable def a295 : AFn := mkA Tryz.f295 [4, 5, 6, 12, 13, 25, 33] [] [4] [] [] [] [] [] [] [] [] []
noncomputable def a296 : AFn := mkA Tryz.f296 [4, 5, 6, 7, 13, 20] [] [] [] [] [] [] [] [] [] [] []
noncomputable def a297 : AFn := mkA Tryz.f297 [1, 6, 7, 8, 12, 13, 14, 18, 24, 31] [] [] [] [] [] [] [] [] [] [] []
noncomputable def a299 : AFn := mkA Tryz.f299 [2, 3, 4, 18, 25, 34, 41, 48] [] [2] [] [] [] [] [] [] [] [] []
noncomputable def a300 : AFn := mkA Tryz.f300 [0, 2, 3, 7, 13] [] [] [] [] [] [] [] [] [] [] []
noncomputable def a305 : AFn := mkA Tryz.f305 [2, 3, 4, 5, 7, 8, 9, 10, 11, 14, 19] [(4, [4, 5, 8, 9, 10], [4])] [] [] [] [] [] [] [] [] [] []
noncomputable def a306 : AFn := mkA Tryz.f306 [0, 2, 3, 6, 7] [] [] [] [] [] [] [] [] [] [] []
noncomputable def a307 : AFn := mkA Tryz.f307 [2, 3, 4, 6, 8, 10, 12, 14] [] [] [] [] [] [] [] [] [] [] []
noncomputable def a308 : AFn := mkA Tryz.f308 [2, 3, 4, 5, 6, 7, 10, 11, 12, 13, 20] [(4, [0, 5, 10, 11, 12], [8, 9])] [] [] [] [] [] [] [] [] [] []
noncomputable def Ts : List (Nat × AFn) := [(7, a7), (8, a8), (9, a9), (11, a11), (12, a12), (15, a15), (16, a16), (17, a17), (19, a19), (20, a20), (21, a21), (22, a22), (23, a23), (24, a24), (25, a25), (29, a29), (30, a30), (31, a31), (32, a32), (33, a33), (34, a34), (35, a35), (36, a36), (37, a37), (38, a38), (40, a40), (41, a41), (42, a42), (50, a50), (56, a56), (57, a57), (58, a58), (59, a59), (60, a60), (62, a62), (65, a65), (66, a66), (70, a70), (71, a71), (72, a72), (73, a73), (75, a75), (76, a76), (77, a77), (78, a78), (79, a79), (80, a80), (81, a81), (82, a82), (83, a83), (84, a84), (85, a85), (86, a86), (87, a87), (88, a88), (89, a89), (90, a90), (91, a91), (108, a108), (110, a110), (111, a111), (113, a113), (116, a116), (120, a120), (121, a121), (122, a122), (123, a123), (124, a124), (125, a125), (126, a126), (127, a127), (128, a128), (129, a129), (130, a130), (131, a131), (132, a132), (133, a133), (134, a134), (135, a135), (136, a136), (137, a137), (138, a138), (139, a139), (161, a161), (165, a165), (173, a173), (177, a177), (178, a178), (179, a179), (180, a180), (181, a181), (182, a182), (183, a183), (184, a184), (185, a185), (186, a186), (187, a187), (188, a188), (189, a189), (190, a190), (191, a191), (192, a192), (193, a193), (194, a194), (195, a195), (196, a196), (221, a221), (222, a222), (223, a223), (224, a224), (225, a225), (226, a226), (227, a227), (228, a228), (229, a229), (230, a230), (231, a231), (232, a232), (233, a233), (234, a234), (235, a235), (236, a236), (237, a237), (238, a238), (239, a239), (240, a240), (241, a241), (242, a242), (243, a243), (244, a244), (245, a245), (246, a246), (247, a247), (248, a248), (261, a261), (270, a270), (271, a271), (272, a272), (273, a273), (274, a274), (275, a275), (276, a276), (277, a277), (278, a278), (279, a279), (287, a287), (288, a288), (295, a295), (296, a296), (297, a297), (299, a299), (300, a300), (305, a305), (306, a306), (307, a307), (308, a308)]
theorem ok7 : FnOK Tryz.prog L 7 a7 := mkA_ok Tryz.func7 (by kernel_rfl)
theorem ok8 : FnOK Tryz.prog L 8 a8 := mkA_ok Tryz.func8 (by kernel_rfl)
theorem ok9 : FnOK Tryz.prog L 9 a9 := mkA_ok Tryz.func9 (by kernel_rfl)
theorem ok11 : FnOK Tryz.prog L 11 a11 := mkA_ok Tryz.func11 (by kernel_rfl)
theorem ok12 : FnOK Tryz.prog L 12 a12 := mkA_ok Tryz.func12 (by kernel_rfl)
theorem ok15 : FnOK Tryz.prog L 15 a15 := mkA_ok Tryz.func15 (by kernel_rfl)
theorem ok16 : FnOK Tryz.prog L 16 a16 := mkA_ok Tryz.func16 (by kernel_rfl)
theorem ok17 : FnOK Tryz.prog L 17 a17 := mkA_ok Tryz.func17 (by kernel_rfl)
theorem ok19 : FnOK Tryz.prog L 19 a19 := mkA_ok Tryz.func19 (by kernel_rfl)
theorem ok20 : FnOK Tryz.prog L 20 a20 := mkA_ok Tryz.func20 (by kernel_rfl)
theorem ok21 : FnOK Tryz.prog L 21 a21 := mkA_ok Tryz.func21 (by kernel_rfl)
theorem ok22 : FnOK Tryz.prog L 22 a22 := mkA_ok Tryz.func22 (by kernel_rfl)
theorem ok23 : FnOK Tryz.prog L 23 a23 := mkA_ok Tryz.func23 (by kernel_rfl)
theorem ok24 : FnOK Tryz.prog L 24 a24 := mkA_ok Tryz.func24 (by kernel_rfl)
theorem ok25 : FnOK Tryz.prog L 25 a25 := mkA_ok Tryz.func25 (by kernel_rfl)
theorem ok29 : FnOK Tryz.prog L 29 a29 := mkA_ok Tryz.func29 (by kernel_rfl)
theorem ok30 : FnOK Tryz.prog L 30 a30 := mkA_ok Tryz.func30 (by kernel_rfl)
theorem ok31 : FnOK Tryz.prog L 31 a31 := mkA_ok Tryz.func31 (by kernel_rfl)
theorem ok32 : FnOK Tryz.prog L 32 a32 := mkA_ok Tryz.func32 (by kernel_rfl)
theorem ok33 : FnOK Tryz.prog L 33 a33 := mkA_ok Tryz.func33 (by kernel_rfl)
theorem ok34 : FnOK Tryz.prog L 34 a34 := mkA_ok Tryz.func34 (by kernel_rfl)
theorem ok35 : FnOK Tryz.prog L 35 a35 := mkA_ok Tryz.func35 (by kernel_rfl)
theorem ok36 : FnOK Tryz.prog L 36 a36 := mkA_ok Tryz.func36 (by kernel_rfl)
theorem ok37 : FnOK Tryz.prog L 37 a37 := mkA_ok Tryz.func37 (by kernel_rfl)
theorem ok38 : FnOK Tryz.prog L 38 a38 := mkA_ok Tryz.func38 (by kernel_rfl)
theorem ok40 : FnOK Tryz.prog L 40 a40 := mkA_ok Tryz.func40 (by kernel_rfl)
theorem ok41 : FnOK Tryz.prog L 41 a41 := mkA_ok Tryz.func41 (by kernel_rfl)
theorem ok42 : FnOK Tryz.prog L 42 a42 := mkA_ok Tryz.func42 (by kernel_rfl)
theorem ok50 : FnOK Tryz.prog L 50 a50 := mkA_ok Tryz.func50 (by kernel_rfl)
theorem ok56 : FnOK Tryz.prog L 56 a56 := mkA_ok Tryz.func56 (by kernel_rfl)
theorem ok57 : FnOK Tryz.prog L 57 a57 := mkA_ok Tryz.func57 (by kernel_rfl)
theorem ok58 : FnOK Tryz.prog L 58 a58 := mkA_ok Tryz.func58 (by kernel_rfl)
theorem ok59 : FnOK Tryz.prog L 59 a59 := mkA_ok Tryz.func59 (by kernel_rfl)
theorem ok60 : FnOK Tryz.prog L 60 a60 := mkA_ok Tryz.func60 (by kernel_rfl)
theorem ok62 : FnOK Tryz.prog L 62 a62 := mkA_ok Tryz.func62 (by kernel_rfl)
theorem ok65 : FnOK Tryz.prog L 65 a65 := mkA_ok Tryz.func65 (by kernel_rfl)
theorem ok66 : FnOK Tryz.prog L 66 a66 := mkA_ok Tryz.func66 (by kernel_rfl)
theorem ok70 : FnOK Tryz.prog L 70 a70 := mkA_ok Tryz.func70 (by kernel_rfl)
theorem ok71 : FnOK Tryz.prog L 71 a71 := mkA_ok Tryz.func71 (by kernel_rfl)
theorem ok72 : FnOK Tryz.prog L 72 a72 := mkA_ok Tryz.func72 (by kernel_rfl)
theorem ok73 : FnOK Tryz.prog L 73 a73 := mkA_ok Tryz.func73 (by kernel_rfl)
theorem ok75 : FnOK Tryz.prog L 75 a75 := mkA_ok Tryz.func75 (by kernel_rfl)
theorem ok76 : FnOK Tryz.prog L 76 a76 := mkA_ok Tryz.func76 (by kernel_rfl)
theorem ok77 : FnOK Tryz.prog L 77 a77 := mkA_ok Tryz.func77 (by kernel_rfl)
theorem ok78 : FnOK Tryz.prog L 78 a78 := mkA_ok Tryz.func78 (by kernel_rfl)
theorem ok79 : FnOK Tryz.prog L 79 a79 := mkA_ok Tryz.func79 (by kernel_rfl)
theorem ok80 : FnOK Tryz.prog L 80 a80 := mkA_ok Tryz.func80 (by kernel_rfl)
theorem ok81 : FnOK Tryz.prog L 81 a81 := mkA_ok Tryz.func81 (by kernel_rfl)
theorem ok82 : FnOK Tryz.prog L 82 a82 := mkA_ok Tryz.func82 (by kernel_rfl)
theorem ok83 : FnOK Tryz.prog L 83 a83 := mkA_ok Tryz.func83 (by kernel_rfl)
theorem ok84 : FnOK Tryz.prog L 84 a84 := mkA_ok Tryz.func84 (by kernel_rfl)
theorem ok85 : FnOK Tryz.prog L 85 a85 := mkA_ok Tryz.func85 (by kernel_rfl)
theorem ok86 : FnOK Tryz.prog L 86 a86 := mkA_ok Tryz.func86 (by kernel_rfl)
theorem ok87 : FnOK Tryz.prog L 87 a87 := mkA_ok Tryz.func87 (by kernel_rfl)
theorem ok88 : FnOK Tryz.prog L 88 a88 := mkA_ok Tryz.func88 (by kernel_rfl)
theorem ok89 : FnOK Tryz.prog L 89 a89 := mkA_ok Tryz.func89 (by kernel_rfl)
theorem ok90 : FnOK Tryz.prog L 90 a90 := mkA_ok Tryz.func90 (by kernel_rfl)
theorem ok91 : FnOK Tryz.prog L 91 a91 := mkA_ok Tryz.func91 (by kernel_rfl)
theorem ok108 : FnOK Tryz.prog L 108 a108 := mkA_ok Tryz.func108 (by kernel_rfl)
theorem ok110 : FnOK Tryz.prog L 110 a110 := mkA_ok Tryz.func110 (by kernel_rfl)
theorem ok111 : FnOK Tryz.prog L 111 a111 := mkA_ok Tryz.func111 (by kernel_rfl)
theorem ok113 : FnOK Tryz.prog L 113 a113 := mkA_ok Tryz.func113 (by kernel_rfl)
theorem ok116 : FnOK Tryz.prog L 116 a116 := mkA_ok Tryz.func116 (by kernel_rfl)
theorem ok120 : FnOK Tryz.prog L 120 a120 := mkA_ok Tryz.func120 (by kernel_rfl)
theorem ok121 : FnOK Tryz.prog L 121 a121 := mkA_ok Tryz.func121 (by kernel_rfl)
theorem ok122 : FnOK Tryz.prog L 122 a122 := mkA_ok Tryz.func122 (by kernel_rfl)
theorem ok123 : FnOK Tryz.prog L 123 a123 := mkA_ok Tryz.func123 (by kernel_rfl)
theorem ok124 : FnOK Tryz.prog L 124 a124 := mkA_ok Tryz.func124 (by kernel_rfl)
theorem ok125 : FnOK Tryz.prog L 125 a125 := mkA_ok Tryz.func125 (by kernel_rfl)
theorem ok126 : FnOK Tryz.prog L 126 a126 := mkA_ok Tryz.func126 (by kernel_rfl)
theorem ok127 : FnOK Tryz.prog L 127 a127 := mkA_ok Tryz.func127 (by kernel_rfl)
theorem ok128 : FnOK Tryz.prog L 128 a128 := mkA_ok Tryz.func128 (by kernel_rfl)
theorem ok129 : FnOK Tryz.prog L 129 a129 := mkA_ok Tryz.func129 (by kernel_rfl)
theorem ok130 : FnOK Tryz.prog L 130 a130 := mkA_ok Tryz.func130 (by kernel_rfl)
theorem ok131 : FnOK Tryz.prog L 131 a131 := mkA_ok Tryz.func131 (by kernel_rfl)
theorem ok132 : FnOK Tryz.prog L 132 a132 := mkA_ok Tryz.func132 (by kernel_rfl)
theorem ok133 : FnOK Tryz.prog L 133 a133 := mkA_ok Tryz.func133 (by kernel_rfl)
theorem ok134 : FnOK Tryz.prog L 134 a134 := mkA_ok Tryz.func134 (by kernel_rfl)
theorem ok135 : FnOK Tryz.prog L 135 a135 := mkA_ok Tryz.func135 (by kernel_rfl)
theorem ok136 : FnOK Tryz.prog L 136 a136 := mkA_ok Tryz.func136 (by kernel_rfl)
theorem ok137 : FnOK Tryz.prog L 137 a137 := mkA_ok Tryz.func137 (by kernel_rfl)
theorem ok138 : FnOK Tryz.prog L 138 a138 := mkA_ok Tryz.func138 (by kernel_rfl)
theorem ok139 : FnOK Tryz.prog L 139 a139 := mkA_ok Tryz.func139 (by kernel_rfl)
theorem ok161 : FnOK Tryz.prog L 161 a161 := mkA_ok Tryz.func161 (by kernel_rfl)
theorem ok165 : FnOK Tryz.prog L 165 a165 := mkA_ok Tryz.func165 (by kernel_rfl)
theorem ok173 : FnOK Tryz.prog L 173 a173 := mkA_ok Tryz.func173 (by kernel_rfl)
theorem ok177 : FnOK Tryz.prog L 177 a177 := mkA_ok Tryz.func177 (by kernel_rfl)
theorem ok178 : FnOK Tryz.prog L 178 a178 := mkA_ok Tryz.func178 (by kernel_rfl)
theorem ok179 : FnOK Tryz.prog L 179 a179 := mkA_ok Tryz.func179 (by kernel_rfl)
theorem ok180 : FnOK Tryz.prog L 180 a180 := mkA_ok Tryz.func180 (by kernel_rfl)
theorem ok181 : FnOK Tryz.prog L 181 a181 := mkA_ok Tryz.func181 (by kernel_rfl)
theorem ok182 : FnOK Tryz.prog L 182 a182 := mkA_ok Tryz.func182 (by kernel_rfl)
theorem ok183 : FnOK Tryz.prog L 183 a183 := mkA_ok Tryz.func183 (by kernel_rfl)
theorem ok184 : FnOK Tryz.prog L 184 a184 := mkA_ok Tryz.func184 (by kernel_rfl)
theorem ok185 : FnOK Tryz.prog L 185 a185 := mkA_ok Tryz.func185 (by kernel_rfl)
theorem ok186 : FnOK Tryz.prog L 186 a186 := mkA_ok Tryz.func186 (by kernel_rfl)
theorem ok187 : FnOK Tryz.prog L 187 a187 := mkA_ok Tryz.func187 (by kernel_rfl)
theorem ok188 : FnOK Tryz.prog L 188 a188 := mkA_ok Tryz.func188 (by kernel_rfl)
theorem ok189 : FnOK Tryz.prog L 189 a189 := mkA_ok Tryz.func189 (by kernel_rfl)
theorem ok190 : FnOK Tryz.prog L 190 a190 := mkA_ok Tryz.func190 (by kernel_rfl)
theorem ok191 : FnOK Tryz.prog L 191 a191 := mkA_ok Tryz.func191 (by kernel_rfl)
theorem ok192 : FnOK Tryz.prog L 192 a192 := mkA_ok Tryz.func192 (by kernel_rfl)
theorem ok193 : FnOK Tryz.prog L 193 a193 := mkA_ok Tryz.func193 (by kernel_rfl)
theorem ok194 : FnOK Tryz.prog L 194 a194 := mkA_ok Tryz.func194 (by kernel_rfl)
theorem ok195 : FnOK Tryz.prog L 195 a195 := mkA_ok Tryz.func195 (by kernel_rfl)
theorem ok196 : FnOK Tryz.prog L 196 a196 := mkA_ok Tryz.func196 (by kernel_rfl)
theorem ok221 : FnOK Tryz.prog L 221 a221 := mkA_ok Tryz.func221 (by kernel_rfl)
theorem ok222 : FnOK Tryz.prog L 222 a222 := mkA_ok Tryz.func222 (by kernel_rfl)
theorem ok223 : FnOK Tryz.prog L 223 a223 := mkA_ok Tryz.func223 (by kernel_rfl)
theorem ok224 : FnOK Tryz.prog L 224 a224 := mkA_ok Tryz.func224 (by kernel_rfl)
theorem ok225 : FnOK Tryz.prog L 225 a225 := mkA_ok Tryz.func225 (by kernel_rfl)
theorem ok226 : FnOK Tryz.prog L 226 a226 := mkA_ok Tryz.func226 (by kernel_rfl)
theorem ok227 : FnOK Tryz.prog L 227 a227 := mkA_ok Tryz.func227 (by kernel_rfl)
theorem ok228 : FnOK Tryz.prog L 228 a228 := mkA_ok Tryz.func228 (by kernel_rfl)
theorem ok229 : FnOK Tryz.prog L 229 a229 := mkA_ok Tryz.func229 (by kernel_rfl)
theorem ok230 : FnOK Tryz.prog L 230 a230 := mkA_ok Tryz.func230 (by kernel_rfl)
theorem ok231 : FnOK Tryz.prog L 231 a231 := mkA_ok Tryz.func231 (by kernel_rfl)
theorem ok232 : FnOK Tryz.prog L 232 a232 := mkA_ok Tryz.func232 (by kernel_rfl)
theorem ok233 : FnOK Tryz.prog L 233 a233 := mkA_ok Tryz.func233 (by kernel_rfl)
theorem ok234 : FnOK Tryz.prog L 234 a234 := mkA_ok Tryz.func234 (by kernel_rfl)
theorem ok235 : FnOK Tryz.prog L 235 a235 := mkA_ok Tryz.func235 (by kernel_rfl)
theorem ok236 : FnOK Tryz.prog L 236 a236 := mkA_ok Tryz.func236 (by kernel_rfl)
theorem ok237 : FnOK Tryz.prog L 237 a237 := mkA_ok Tryz.func237 (by kernel_rfl)
theorem ok238 : FnOK Tryz.prog L 238 a238 := mkA_ok Tryz.func238 (by kernel_rfl)
theorem ok239 : FnOK Tryz.prog L 239 a239 := mkA_ok Tryz.func239 (by kernel_rfl)
theorem ok240 : FnOK Tryz.prog L 240 a240 := mkA_ok Tryz.func240 (by kernel_rfl)
theorem ok241 : FnOK Tryz.prog L 241 a241 := mkA_ok Tryz.func241 (by kernel_rfl)
theorem ok242 : FnOK Tryz.prog L 242 a242 := mkA_ok Tryz.func242 (by kernel_rfl)
theorem ok243 : FnOK Tryz.prog L 243 a243 := mkA_ok Tryz.func243 (by kernel_rfl)
theorem ok244 : FnOK Tryz.prog L 244 a244 := mkA_ok Tryz.func244 (by kernel_rfl)
theorem ok245 : FnOK Tryz.prog L 245 a245 := mkA_ok Tryz.func245 (by kernel_rfl)
theorem ok246 : FnOK Tryz.prog L 246 a246 := mkA_ok Tryz.func246 (by kernel_rfl)
theorem ok247 : FnOK Tryz.prog L 247 a247 := mkA_ok Tryz.func247 (by kernel_rfl)
theorem ok248 : FnOK Tryz.prog L 248 a248 := mkA_ok Tryz.func248 (by kernel_rfl)
theorem ok261 : FnOK Tryz.prog L 261 a261 := mkA_ok Tryz.func261 (by kernel_rfl)
theorem ok270 : FnOK Tryz.prog L 270 a270 := mkA_ok Tryz.func270 (by kernel_rfl)
theorem ok271 : FnOK Tryz.prog L 271 a271 := mkA_ok Tryz.func271 (by kernel_rfl)
theorem ok272 : FnOK Tryz.prog L 272 a272 := mkA_ok Tryz.func272 (by kernel_rfl)
theorem ok273 : FnOK Tryz.prog L 273 a273 := mkA_ok Tryz.func273 (by kernel_rfl)
theorem ok274 : FnOK Tryz.prog L 274 a274 := mkA_ok Tryz.func274 (by kernel_rfl)
theorem ok275 : FnOK Tryz.prog L 275 a275 := mkA_ok Tryz.func275 (by kernel_rfl)
theorem ok276 : FnOK Tryz.prog L 276 a276 := mkA_ok Tryz.func276 (by kernel_rfl)
theorem ok277 : FnOK Tryz.prog L 277 a277 := mkA_ok Tryz.func277 (by kernel_rfl)
theorem ok278 : FnOK Tryz.prog L 278 a278 := mkA_ok Tryz.func278 (by kernel_rfl)
theorem ok279 : FnOK Tryz.prog L 279 a279 := mkA_ok Tryz.func279 (by kernel_rfl)
theorem ok287 : FnOK Tryz.prog L 287 a287 := mkA_ok Tryz.func287 (by kernel_rfl)
theorem ok288 : FnOK Tryz.prog L 288 a288 := mkA_ok Tryz.func288 (by kernel_rfl)
theorem ok295 : FnOK Tryz.prog L 295 a295 := mkA_ok Tryz.func295 (by kernel_rfl)
theorem ok296 : FnOK Tryz.prog L 296 a296 := mkA_ok Tryz.func296 (by kernel_rfl)
theorem ok297 : FnOK Tryz.prog L 297 a297 := mkA_ok Tryz.func297 (by kernel_rfl)
theorem ok299 : FnOK Tryz.prog L 299 a299 := mkA_ok Tryz.func299 (by kernel_rfl)
theorem ok300 : FnOK Tryz.prog L 300 a300 := mkA_ok Tryz.func300 (by kernel_rfl)
theorem ok305 : FnOK Tryz.prog L 305 a305 := mkA_ok Tryz.func305 (by kernel_rfl)
theorem ok306 : FnOK Tryz.prog L 306 a306 := mkA_ok Tryz.func306 (by kernel_rfl)
theorem ok307 : FnOK Tryz.prog L 307 a307 := mkA_ok Tryz.func307 (by kernel_rfl)
theorem ok308 : FnOK Tryz.prog L 308 a308 := mkA_ok Tryz.func308 (by kernel_rfl)
theorem za4 {Q : Nat × AFn → Prop} {x : Nat × AFn} {l : List (Nat × AFn)} (h : Q x) (hl : ∀ p ∈ l, Q p) : ∀ p ∈ x :: l, Q p := List.forall_mem_cons.2 ⟨h, hl⟩
theorem Ts_ok : ∀ p ∈ Ts, FnOK Tryz.prog L p.1 p.2 := by
 unfold Ts
 exact za4 ok7 (za4 ok8 (za4 ok9 (za4 ok11 (za4 ok12 (za4 ok15 (za4 ok16 (za4 ok17 (za4 ok19 (za4 ok20 (za4 ok21 (za4 ok22 (za4 ok23 (za4 ok24 (za4 ok25 (za4 ok29 (za4 ok30 (za4 ok31 (za4 ok32 (za4 ok33 (za4 ok34 (za4 ok35 (za4 ok36 (za4 ok37 (za4 ok38 (za4 ok40 (za4 ok41 (za4 ok42 (za4 ok50 (za4 ok56 (za4 ok57 (za4 ok58 (za4 ok59 (za4 ok60 (za4 ok62 (za4 ok65 (za4 ok66 (za4 ok70 (za4 ok71 (za4 ok72 (za4 ok73 (za4 ok75 (za4 ok76 (za4 ok77 (za4 ok78 (za4 ok79 (za4 ok80 (za4 ok81 (za4 ok82 (za4 ok83 (za4 ok84 (za4 ok85 (za4 ok86 (za4 ok87 (za4 ok88 (za4 ok89 (za4 ok90 (za4 ok91 (za4 ok108 (za4 ok110 (za4 ok111 (za4 ok113 (za4 ok116 (za4 ok120 (za4 ok121 (za4 ok122 (za4 ok123 (za4 ok124 (za4 ok125 (za4 ok126 (za4 ok127 (za4 ok128 (za4 ok129 (za4 ok130 (za4 ok131 (za4 ok132 (za4 ok133 (za4 ok134 (za4 ok135 (za4 ok136 (za4 ok137 (za4 ok138 (za4 ok139 (za4 ok161 (za4 ok165 (za4 ok173 (za4 ok177 (za4 ok178 (za4 ok179 (za4 ok180 (za4 ok181 (za4 ok182 (za4 ok183 (za4 ok184 (za4 ok185 (za4 ok186 (za4 ok187 (za4 ok188 (za4 ok189 (za4 ok190 (za4 ok191 (za4 ok192 (za4 ok193 (za4 ok194 (za4 ok195 (za4 ok196 (za4 ok221 (za4 ok222 (za4 ok223 (za4 ok224 (za4 ok225 (za4 ok226 (za4 ok227 (za4 ok228 (za4 ok229 (za4 ok230 (za4 ok231 (za4 ok232 (za4 ok233 (za4 ok234 (za4 ok235 (za4 ok236 (za4 ok237 (za4 ok238 (za4 ok239 (za4 ok240 (za4 ok241 (za4 ok242 (za4 ok243 (za4 ok244 (za4 ok245 (za4 ok246 (za4 ok247 (za4 ok248 (za4 ok261 (za4 ok270 (za4 ok271 (za4 ok272 (za4 ok273 (za4 ok274 (za4 ok275 (za4 ok276 (za4 ok277 (za4 ok278 (za4 ok279 (za4 ok287 (za4 ok288 (za4 ok295 (za4 ok296 (za4 ok297 (za4 ok299 (za4 ok300 (za4 ok305 (za4 ok306 (za4 ok307 (za4 ok308 (fun _ h => (by cases h)))))))))))))))))))))))))))))))))))))))))))))))))))))))))))))))))))))))))))))))))))))))))))))))))))))))))))))))))))))))))))))))))))))))))))))))))))))))))))))
theorem yok90_0 : YOK Tryz.prog L y90_0 a90.ann := by
 unfold y90_0 a90
 exact mkY_ok (by kernel_rfl) (by kernel_rfl) (by kernel_rfl)
noncomputable def Ys : List (Nat × YInfo × Ann) := [(1000900, y90_0, a90.ann)]
theorem Ys_ok : ∀ p ∈ Ys, p.1 = p.2.1.num ∧ YOK Tryz.prog L p.2.1 p.2.2 := by
 intro p hp
 simp only [Ys, List.mem_cons, List.not_mem_nil, or_false] at hp
 rcases hp with rfl
 ·exact ⟨mkY_num.symm, yok90_0⟩
noncomputable def T : Nat → Option Entry := tabT [(309, idxLaw), (84, cloneLaw 1 1), (109, cloneLaw 1 1), (159, cloneLaw 3 24), (173, cloneLaw 3 24), (216, cloneLaw 1 8)] [] Ts Ts Ys
theorem L_ok : LOK Tryz.prog L := lok (by kernel_rfl)
theorem T_ok : TableOK Tryz.prog L T := tokT (X := [(309, idxLaw), (84, cloneLaw 1 1), (109, cloneLaw 1 1), (159, cloneLaw 3 24), (173, cloneLaw 3 24), (216, cloneLaw 1 8)]) (Y := []) (Ts := Ts) (Hs := Ts) (Ys := Ys) (by
 intro p hp
 simp only [List.mem_cons, List.not_mem_nil, or_false] at hp
 rcases hp with rfl | rfl | rfl | rfl | rfl | rfl
 exact idx_ok Tryz.func309 (by kernel_rfl) (by kernel_rfl) (by kernel_rfl) (by kernel_rfl)
 exact zh0 (by kernel_rfl) L_ok (zgv "bytes.go:1391" "bytes.go:1392" "bytes.go:1393" "bytes.go:1395" (t := 29) Tryz.func84 (by kernel_rfl) (by kernel_rfl) (by kernel_rfl) (of_decide_eq_true (by kernel_rfl))) (show L 29 = some _ from rfl) rfl (show L 5 = some _ from rfl) rfl rfl (by decide) (by decide) (.inr rfl) rfl
 exact zh0 (by kernel_rfl) L_ok (zgv "slices.go:355" "slices.go:357" "slices.go:358" "slices.go:362" (t := 29) Tryz.func109 (by kernel_rfl) (by kernel_rfl) (by kernel_rfl) (of_decide_eq_true (by kernel_rfl))) (show L 29 = some _ from rfl) rfl (show L 5 = some _ from rfl) rfl rfl (by decide) (by decide) (.inr rfl) rfl
 exact zh0 (by kernel_rfl) L_ok (zgv "slices.go:355" "slices.go:357" "slices.go:358" "slices.go:362" (t := 109) Tryz.func159 (by kernel_rfl) (by kernel_rfl) (by kernel_rfl) (of_decide_eq_true (by kernel_rfl))) (show L 109 = some _ from rfl) rfl (show L 124 = some _ from rfl) rfl rfl (by decide) (by decide) (.inr rfl) rfl
 exact zh0 (by kernel_rfl) L_ok (zgv "slices.go:355" "slices.go:357" "slices.go:358" "slices.go:362" (t := 139) Tryz.func173 (by kernel_rfl) (by kernel_rfl) (by kernel_rfl) (of_decide_eq_true (by kernel_rfl))) (show L 139 = some _ from rfl) rfl (show L 43 = some _ from rfl) rfl rfl (by decide) (by decide) (.inr rfl) rfl
 exact zh0 (by kernel_rfl) L_ok (zgv "slices.go:355" "slices.go:357" "slices.go:358" "slices.go:362" (t := 32) Tryz.func216 (by kernel_rfl) (by kernel_rfl) (by kernel_rfl) (of_decide_eq_true (by kernel_rfl))) (show L 32 = some _ from rfl) rfl (show L 3 = some _ from rfl) rfl rfl (by decide) (by decide) (.inr rfl) rfl) (fun p hp => by cases hp) Ts_ok Ts_ok Ys_ok
theorem laid : laidOutB Tryz.prog = true := by kernel_rfl
theorem own : ownKnob Tryz.prog.godebug = none := by kernel_rfl
end Go.Proofs.YtbaenaalfpcaaaaGreatDoor
