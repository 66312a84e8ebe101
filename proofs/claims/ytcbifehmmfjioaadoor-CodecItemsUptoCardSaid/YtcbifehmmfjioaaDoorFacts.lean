import Derived.Test.YtcbifehmmfjioaaDoorRules3
import Derived.Test.YtcbifehmmfjioaaDoorProg
/-! Facts about the types and functions of this seat, printed by a program. -/
namespace Go.Lw
open Go.Proofs
theorem ty0 : tyc Tryd.prog 0 = some (false, 1) := by kernel_rfl
theorem ze0 : zer Tryd.prog 0 = some ([Go.Value.tuple #[]]) := by kernel_rfl
theorem ty1 : tyc Tryd.prog 1 = some (false, 1) := by kernel_rfl
theorem ze1 : zer Tryd.prog 1 = some ([Go.Value.nilFunc]) := by kernel_rfl
theorem ty2 : tyc Tryd.prog 2 = some (false, 1) := by kernel_rfl
theorem ze2 : zer Tryd.prog 2 = some ([Go.Value.int Go.IntKind.i64 (0)]) := by kernel_rfl
theorem ty3 : tyc Tryd.prog 3 = some (false, 1) := by kernel_rfl
theorem ze3 : zer Tryd.prog 3 = some ([Go.Value.int Go.IntKind.i64 (0)]) := by kernel_rfl
theorem ty4 : tyc Tryd.prog 4 = some (false, 1) := by kernel_rfl
theorem ze4 : zer Tryd.prog 4 = some ([Go.Value.bool false]) := by kernel_rfl
theorem ty5 : tyc Tryd.prog 5 = some (false, 1) := by kernel_rfl
theorem ze5 : zer Tryd.prog 5 = some ([Go.Value.int Go.IntKind.u8 (0)]) := by kernel_rfl
theorem ty6 : tyc Tryd.prog 6 = some (false, 1) := by kernel_rfl
theorem ze6 : zer Tryd.prog 6 = some ([Go.Value.int Go.IntKind.u8 (0)]) := by kernel_rfl
theorem ty7 : tyc Tryd.prog 7 = some (true, 4) := by kernel_rfl
theorem ze7 : zer Tryd.prog 7 = some ([Go.Value.int Go.IntKind.i64 (0), Go.Value.int Go.IntKind.i64 (0), Go.Value.bool false, Go.Value.int Go.IntKind.u8 (0)]) := by kernel_rfl
theorem pl7 : plc Tryd.prog 7 = some ([(0, 1), (1, 1), (2, 1), (3, 1)]) := by kernel_rfl
theorem fl7_0 : fld Tryd.prog 7 0 = some (0, 1) := by kernel_rfl
theorem fl7_1 : fld Tryd.prog 7 1 = some (1, 1) := by kernel_rfl
theorem fl7_2 : fld Tryd.prog 7 2 = some (2, 1) := by kernel_rfl
theorem fl7_3 : fld Tryd.prog 7 3 = some (3, 1) := by kernel_rfl
theorem ty8 : tyc Tryd.prog 8 = some (true, 4) := by kernel_rfl
theorem ze8 : zer Tryd.prog 8 = some ([Go.Value.int Go.IntKind.i64 (0), Go.Value.int Go.IntKind.i64 (0), Go.Value.bool false, Go.Value.int Go.IntKind.u8 (0)]) := by kernel_rfl
theorem pl8 : plc Tryd.prog 8 = some ([(0, 1), (1, 1), (2, 1), (3, 1)]) := by kernel_rfl
theorem fl8_0 : fld Tryd.prog 8 0 = some (0, 1) := by kernel_rfl
theorem fl8_1 : fld Tryd.prog 8 1 = some (1, 1) := by kernel_rfl
theorem fl8_2 : fld Tryd.prog 8 2 = some (2, 1) := by kernel_rfl
theorem fl8_3 : fld Tryd.prog 8 3 = some (3, 1) := by kernel_rfl
theorem ty9 : tyc Tryd.prog 9 = some (false, 1) := by kernel_rfl
theorem ze9 : zer Tryd.prog 9 = some ([Go.Value.string { data := #[] }]) := by kernel_rfl
theorem ty10 : tyc Tryd.prog 10 = some (false, 1) := by kernel_rfl
theorem ze10 : zer Tryd.prog 10 = some ([Go.Value.string { data := #[] }]) := by kernel_rfl
theorem ty11 : tyc Tryd.prog 11 = some (false, 1) := by kernel_rfl
theorem ze11 : zer Tryd.prog 11 = some ([Go.Value.string { data := #[] }]) := by kernel_rfl
theorem ty12 : tyc Tryd.prog 12 = some (false, 1) := by kernel_rfl
theorem ze12 : zer Tryd.prog 12 = some ([Go.Value.int Go.IntKind.u64 (0)]) := by kernel_rfl
theorem ty13 : tyc Tryd.prog 13 = some (true, 2) := by kernel_rfl
theorem ze13 : zer Tryd.prog 13 = some ([Go.Value.string { data := #[] }, Go.Value.int Go.IntKind.u64 (0)]) := by kernel_rfl
theorem pl13 : plc Tryd.prog 13 = some ([(0, 1), (1, 1)]) := by kernel_rfl
theorem fl13_0 : fld Tryd.prog 13 0 = some (0, 1) := by kernel_rfl
theorem fl13_1 : fld Tryd.prog 13 1 = some (1, 1) := by kernel_rfl
theorem ty14 : tyc Tryd.prog 14 = some (true, 2) := by kernel_rfl
theorem ze14 : zer Tryd.prog 14 = some ([Go.Value.string { data := #[] }, Go.Value.int Go.IntKind.u64 (0)]) := by kernel_rfl
theorem pl14 : plc Tryd.prog 14 = some ([(0, 1), (1, 1)]) := by kernel_rfl
theorem fl14_0 : fld Tryd.prog 14 0 = some (0, 1) := by kernel_rfl
theorem fl14_1 : fld Tryd.prog 14 1 = some (1, 1) := by kernel_rfl
theorem ty15 : tyc Tryd.prog 15 = some (false, 1) := by kernel_rfl
theorem ze15 : zer Tryd.prog 15 = some ([Go.Value.pointer none]) := by kernel_rfl
theorem ty16 : tyc Tryd.prog 16 = some (false, 1) := by kernel_rfl
theorem ze16 : zer Tryd.prog 16 = some ([Go.Value.pointer none]) := by kernel_rfl
theorem ty17 : tyc Tryd.prog 17 = some (false, 1) := by kernel_rfl
theorem ze17 : zer Tryd.prog 17 = some ([Go.Value.pointer none]) := by kernel_rfl
theorem ty18 : tyc Tryd.prog 18 = some (true, 1) := by kernel_rfl
theorem ze18 : zer Tryd.prog 18 = some ([Go.Value.pointer none]) := by kernel_rfl
theorem pl18 : plc Tryd.prog 18 = some ([(0, 1)]) := by kernel_rfl
theorem fl18_0 : fld Tryd.prog 18 0 = some (0, 1) := by kernel_rfl
theorem ty19 : tyc Tryd.prog 19 = some (true, 1) := by kernel_rfl
theorem ze19 : zer Tryd.prog 19 = some ([Go.Value.pointer none]) := by kernel_rfl
theorem pl19 : plc Tryd.prog 19 = some ([(0, 1)]) := by kernel_rfl
theorem fl19_0 : fld Tryd.prog 19 0 = some (0, 1) := by kernel_rfl
theorem ty20 : tyc Tryd.prog 20 = some (false, 1) := by kernel_rfl
theorem ze20 : zer Tryd.prog 20 = some ([Go.Value.nilIface]) := by kernel_rfl
theorem ty21 : tyc Tryd.prog 21 = some (false, 1) := by kernel_rfl
theorem ze21 : zer Tryd.prog 21 = some ([Go.Value.int Go.IntKind.i32 (0)]) := by kernel_rfl
theorem ty22 : tyc Tryd.prog 22 = some (false, 1) := by kernel_rfl
theorem sl22 : slc Tryd.prog 22 = some (43, 25, 384) := by kernel_rfl
theorem ze22 : zer Tryd.prog 22 = some ([Go.Value.slice none 0 0]) := by kernel_rfl
theorem ty23 : tyc Tryd.prog 23 = some (false, 1) := by kernel_rfl
theorem ze23 : zer Tryd.prog 23 = some ([Go.Value.nilFunc]) := by kernel_rfl
theorem ty24 : tyc Tryd.prog 24 = some (false, 1) := by kernel_rfl
theorem ze24 : zer Tryd.prog 24 = some ([Go.Value.pointer none]) := by kernel_rfl
theorem ty25 : tyc Tryd.prog 25 = some (false, 1) := by kernel_rfl
theorem sl25 : slc Tryd.prog 25 = some (5, 1, 1) := by kernel_rfl
theorem ze25 : zer Tryd.prog 25 = some ([Go.Value.slice none 0 0]) := by kernel_rfl
theorem ty26 : tyc Tryd.prog 26 = some (true, 1) := by kernel_rfl
theorem ze26 : zer Tryd.prog 26 = some ([Go.Value.slice none 0 0]) := by kernel_rfl
theorem pl26 : plc Tryd.prog 26 = some ([(0, 1)]) := by kernel_rfl
theorem fl26_0 : fld Tryd.prog 26 0 = some (0, 1) := by kernel_rfl
theorem ty27 : tyc Tryd.prog 27 = some (true, 1) := by kernel_rfl
theorem ze27 : zer Tryd.prog 27 = some ([Go.Value.slice none 0 0]) := by kernel_rfl
theorem pl27 : plc Tryd.prog 27 = some ([(0, 1)]) := by kernel_rfl
theorem fl27_0 : fld Tryd.prog 27 0 = some (0, 1) := by kernel_rfl
theorem ty28 : tyc Tryd.prog 28 = some (false, 1) := by kernel_rfl
theorem ze28 : zer Tryd.prog 28 = some ([Go.Value.nilFunc]) := by kernel_rfl
theorem ty29 : tyc Tryd.prog 29 = some (false, 1) := by kernel_rfl
theorem ze29 : zer Tryd.prog 29 = some ([Go.Value.int Go.IntKind.u64 (0)]) := by kernel_rfl
theorem ty30 : tyc Tryd.prog 30 = some (false, 1) := by kernel_rfl
theorem sl30 : slc Tryd.prog 30 = some (3, 1, 8) := by kernel_rfl
theorem ze30 : zer Tryd.prog 30 = some ([Go.Value.slice none 0 0]) := by kernel_rfl
theorem ty31 : tyc Tryd.prog 31 = some (true, 2) := by kernel_rfl
theorem ze31 : zer Tryd.prog 31 = some ([Go.Value.slice none 0 0, Go.Value.slice none 0 0]) := by kernel_rfl
theorem pl31 : plc Tryd.prog 31 = some ([(0, 1), (1, 1)]) := by kernel_rfl
theorem fl31_0 : fld Tryd.prog 31 0 = some (0, 1) := by kernel_rfl
theorem fl31_1 : fld Tryd.prog 31 1 = some (1, 1) := by kernel_rfl
theorem ty32 : tyc Tryd.prog 32 = some (true, 2) := by kernel_rfl
theorem ze32 : zer Tryd.prog 32 = some ([Go.Value.slice none 0 0, Go.Value.slice none 0 0]) := by kernel_rfl
theorem pl32 : plc Tryd.prog 32 = some ([(0, 1), (1, 1)]) := by kernel_rfl
theorem fl32_0 : fld Tryd.prog 32 0 = some (0, 1) := by kernel_rfl
theorem fl32_1 : fld Tryd.prog 32 1 = some (1, 1) := by kernel_rfl
theorem ty33 : tyc Tryd.prog 33 = some (false, 1) := by kernel_rfl
theorem ze33 : zer Tryd.prog 33 = some ([Go.Value.int Go.IntKind.i64 (0)]) := by kernel_rfl
theorem ty34 : tyc Tryd.prog 34 = some (true, 6) := by kernel_rfl
theorem ze34 : zer Tryd.prog 34 = some ([Go.Value.int Go.IntKind.u64 (0), Go.Value.int Go.IntKind.u64 (0), Go.Value.int Go.IntKind.i64 (0), Go.Value.slice none 0 0, Go.Value.slice none 0 0, Go.Value.slice none 0 0]) := by kernel_rfl
theorem pl34 : plc Tryd.prog 34 = some ([(0, 1), (1, 1), (2, 1), (3, 1), (4, 2)]) := by kernel_rfl
theorem fl34_0 : fld Tryd.prog 34 0 = some (0, 1) := by kernel_rfl
theorem fl34_1 : fld Tryd.prog 34 1 = some (1, 1) := by kernel_rfl
theorem fl34_2 : fld Tryd.prog 34 2 = some (2, 1) := by kernel_rfl
theorem fl34_3 : fld Tryd.prog 34 3 = some (3, 1) := by kernel_rfl
theorem fl34_4 : fld Tryd.prog 34 4 = some (4, 2) := by kernel_rfl
theorem ty35 : tyc Tryd.prog 35 = some (true, 6) := by kernel_rfl
theorem ze35 : zer Tryd.prog 35 = some ([Go.Value.int Go.IntKind.u64 (0), Go.Value.int Go.IntKind.u64 (0), Go.Value.int Go.IntKind.i64 (0), Go.Value.slice none 0 0, Go.Value.slice none 0 0, Go.Value.slice none 0 0]) := by kernel_rfl
theorem pl35 : plc Tryd.prog 35 = some ([(0, 1), (1, 1), (2, 1), (3, 1), (4, 2)]) := by kernel_rfl
theorem fl35_0 : fld Tryd.prog 35 0 = some (0, 1) := by kernel_rfl
theorem fl35_1 : fld Tryd.prog 35 1 = some (1, 1) := by kernel_rfl
theorem fl35_2 : fld Tryd.prog 35 2 = some (2, 1) := by kernel_rfl
theorem fl35_3 : fld Tryd.prog 35 3 = some (3, 1) := by kernel_rfl
theorem fl35_4 : fld Tryd.prog 35 4 = some (4, 2) := by kernel_rfl
theorem ty36 : tyc Tryd.prog 36 = some (true, 5) := by kernel_rfl
theorem ze36 : zer Tryd.prog 36 = some ([Go.Value.int Go.IntKind.u64 (0), Go.Value.int Go.IntKind.u64 (0), Go.Value.slice none 0 0, Go.Value.slice none 0 0, Go.Value.slice none 0 0]) := by kernel_rfl
theorem pl36 : plc Tryd.prog 36 = some ([(0, 1), (1, 1), (2, 2), (4, 1)]) := by kernel_rfl
theorem fl36_0 : fld Tryd.prog 36 0 = some (0, 1) := by kernel_rfl
theorem fl36_1 : fld Tryd.prog 36 1 = some (1, 1) := by kernel_rfl
theorem fl36_2 : fld Tryd.prog 36 2 = some (2, 2) := by kernel_rfl
theorem fl36_3 : fld Tryd.prog 36 3 = some (4, 1) := by kernel_rfl
theorem ty37 : tyc Tryd.prog 37 = some (true, 5) := by kernel_rfl
theorem ze37 : zer Tryd.prog 37 = some ([Go.Value.int Go.IntKind.u64 (0), Go.Value.int Go.IntKind.u64 (0), Go.Value.slice none 0 0, Go.Value.slice none 0 0, Go.Value.slice none 0 0]) := by kernel_rfl
theorem pl37 : plc Tryd.prog 37 = some ([(0, 1), (1, 1), (2, 2), (4, 1)]) := by kernel_rfl
theorem fl37_0 : fld Tryd.prog 37 0 = some (0, 1) := by kernel_rfl
theorem fl37_1 : fld Tryd.prog 37 1 = some (1, 1) := by kernel_rfl
theorem fl37_2 : fld Tryd.prog 37 2 = some (2, 2) := by kernel_rfl
theorem fl37_3 : fld Tryd.prog 37 3 = some (4, 1) := by kernel_rfl
theorem ty38 : tyc Tryd.prog 38 = some (true, 2) := by kernel_rfl
theorem ze38 : zer Tryd.prog 38 = some ([Go.Value.string { data := #[] }, Go.Value.string { data := #[] }]) := by kernel_rfl
theorem pl38 : plc Tryd.prog 38 = some ([(0, 1), (1, 1)]) := by kernel_rfl
theorem fl38_0 : fld Tryd.prog 38 0 = some (0, 1) := by kernel_rfl
theorem fl38_1 : fld Tryd.prog 38 1 = some (1, 1) := by kernel_rfl
theorem ty39 : tyc Tryd.prog 39 = some (true, 2) := by kernel_rfl
theorem ze39 : zer Tryd.prog 39 = some ([Go.Value.string { data := #[] }, Go.Value.string { data := #[] }]) := by kernel_rfl
theorem pl39 : plc Tryd.prog 39 = some ([(0, 1), (1, 1)]) := by kernel_rfl
theorem fl39_0 : fld Tryd.prog 39 0 = some (0, 1) := by kernel_rfl
theorem fl39_1 : fld Tryd.prog 39 1 = some (1, 1) := by kernel_rfl
theorem ty40 : tyc Tryd.prog 40 = some (true, 5) := by kernel_rfl
theorem ze40 : zer Tryd.prog 40 = some ([Go.Value.int Go.IntKind.u64 (0), Go.Value.string { data := #[] }, Go.Value.slice none 0 0, Go.Value.int Go.IntKind.u64 (0), Go.Value.int Go.IntKind.u64 (0)]) := by kernel_rfl
theorem pl40 : plc Tryd.prog 40 = some ([(0, 1), (1, 1), (2, 1), (3, 1), (4, 1)]) := by kernel_rfl
theorem fl40_0 : fld Tryd.prog 40 0 = some (0, 1) := by kernel_rfl
theorem fl40_1 : fld Tryd.prog 40 1 = some (1, 1) := by kernel_rfl
theorem fl40_2 : fld Tryd.prog 40 2 = some (2, 1) := by kernel_rfl
theorem fl40_3 : fld Tryd.prog 40 3 = some (3, 1) := by kernel_rfl
theorem fl40_4 : fld Tryd.prog 40 4 = some (4, 1) := by kernel_rfl
theorem ty41 : tyc Tryd.prog 41 = some (true, 5) := by kernel_rfl
theorem ze41 : zer Tryd.prog 41 = some ([Go.Value.int Go.IntKind.u64 (0), Go.Value.string { data := #[] }, Go.Value.slice none 0 0, Go.Value.int Go.IntKind.u64 (0), Go.Value.int Go.IntKind.u64 (0)]) := by kernel_rfl
theorem pl41 : plc Tryd.prog 41 = some ([(0, 1), (1, 1), (2, 1), (3, 1), (4, 1)]) := by kernel_rfl
theorem fl41_0 : fld Tryd.prog 41 0 = some (0, 1) := by kernel_rfl
theorem fl41_1 : fld Tryd.prog 41 1 = some (1, 1) := by kernel_rfl
theorem fl41_2 : fld Tryd.prog 41 2 = some (2, 1) := by kernel_rfl
theorem fl41_3 : fld Tryd.prog 41 3 = some (3, 1) := by kernel_rfl
theorem fl41_4 : fld Tryd.prog 41 4 = some (4, 1) := by kernel_rfl
theorem ty42 : tyc Tryd.prog 42 = some (true, 25) := by kernel_rfl
theorem ze42 : zer Tryd.prog 42 = some ([Go.Value.int Go.IntKind.i64 (0), Go.Value.int Go.IntKind.u64 (0), Go.Value.int Go.IntKind.i64 (0), Go.Value.bool false, Go.Value.slice none 0 0, Go.Value.slice none 0 0, Go.Value.slice none 0 0, Go.Value.int Go.IntKind.u64 (0), Go.Value.int Go.IntKind.u64 (0), Go.Value.int Go.IntKind.i64 (0), Go.Value.slice none 0 0, Go.Value.slice none 0 0, Go.Value.slice none 0 0, Go.Value.int Go.IntKind.u64 (0), Go.Value.int Go.IntKind.u64 (0), Go.Value.slice none 0 0, Go.Value.slice none 0 0, Go.Value.slice none 0 0, Go.Value.string { data := #[] }, Go.Value.string { data := #[] }, Go.Value.int Go.IntKind.u64 (0), Go.Value.string { data := #[] }, Go.Value.slice none 0 0, Go.Value.int Go.IntKind.u64 (0), Go.Value.int Go.IntKind.u64 (0)]) := by kernel_rfl
theorem pl42 : plc Tryd.prog 42 = some ([(0, 1), (1, 1), (2, 1), (3, 1), (4, 1), (5, 2), (7, 6), (13, 5), (18, 2), (20, 5)]) := by kernel_rfl
theorem fl42_0 : fld Tryd.prog 42 0 = some (0, 1) := by kernel_rfl
theorem fl42_1 : fld Tryd.prog 42 1 = some (1, 1) := by kernel_rfl
theorem fl42_2 : fld Tryd.prog 42 2 = some (2, 1) := by kernel_rfl
theorem fl42_3 : fld Tryd.prog 42 3 = some (3, 1) := by kernel_rfl
theorem fl42_4 : fld Tryd.prog 42 4 = some (4, 1) := by kernel_rfl
theorem fl42_5 : fld Tryd.prog 42 5 = some (5, 2) := by kernel_rfl
theorem fl42_6 : fld Tryd.prog 42 6 = some (7, 6) := by kernel_rfl
theorem fl42_7 : fld Tryd.prog 42 7 = some (13, 5) := by kernel_rfl
theorem fl42_8 : fld Tryd.prog 42 8 = some (18, 2) := by kernel_rfl
theorem fl42_9 : fld Tryd.prog 42 9 = some (20, 5) := by kernel_rfl
theorem ty43 : tyc Tryd.prog 43 = some (true, 25) := by kernel_rfl
theorem ze43 : zer Tryd.prog 43 = some ([Go.Value.int Go.IntKind.i64 (0), Go.Value.int Go.IntKind.u64 (0), Go.Value.int Go.IntKind.i64 (0), Go.Value.bool false, Go.Value.slice none 0 0, Go.Value.slice none 0 0, Go.Value.slice none 0 0, Go.Value.int Go.IntKind.u64 (0), Go.Value.int Go.IntKind.u64 (0), Go.Value.int Go.IntKind.i64 (0), Go.Value.slice none 0 0, Go.Value.slice none 0 0, Go.Value.slice none 0 0, Go.Value.int Go.IntKind.u64 (0), Go.Value.int Go.IntKind.u64 (0), Go.Value.slice none 0 0, Go.Value.slice none 0 0, Go.Value.slice none 0 0, Go.Value.string { data := #[] }, Go.Value.string { data := #[] }, Go.Value.int Go.IntKind.u64 (0), Go.Value.string { data := #[] }, Go.Value.slice none 0 0, Go.Value.int Go.IntKind.u64 (0), Go.Value.int Go.IntKind.u64 (0)]) := by kernel_rfl
theorem pl43 : plc Tryd.prog 43 = some ([(0, 1), (1, 1), (2, 1), (3, 1), (4, 1), (5, 2), (7, 6), (13, 5), (18, 2), (20, 5)]) := by kernel_rfl
theorem fl43_0 : fld Tryd.prog 43 0 = some (0, 1) := by kernel_rfl
theorem fl43_1 : fld Tryd.prog 43 1 = some (1, 1) := by kernel_rfl
theorem fl43_2 : fld Tryd.prog 43 2 = some (2, 1) := by kernel_rfl
theorem fl43_3 : fld Tryd.prog 43 3 = some (3, 1) := by kernel_rfl
theorem fl43_4 : fld Tryd.prog 43 4 = some (4, 1) := by kernel_rfl
theorem fl43_5 : fld Tryd.prog 43 5 = some (5, 2) := by kernel_rfl
theorem fl43_6 : fld Tryd.prog 43 6 = some (7, 6) := by kernel_rfl
theorem fl43_7 : fld Tryd.prog 43 7 = some (13, 5) := by kernel_rfl
theorem fl43_8 : fld Tryd.prog 43 8 = some (18, 2) := by kernel_rfl
theorem fl43_9 : fld Tryd.prog 43 9 = some (20, 5) := by kernel_rfl
theorem ty44 : tyc Tryd.prog 44 = some (false, 1) := by kernel_rfl
theorem ze44 : zer Tryd.prog 44 = some ([Go.Value.nilFunc]) := by kernel_rfl
theorem ty45 : tyc Tryd.prog 45 = some (false, 1) := by kernel_rfl
theorem ze45 : zer Tryd.prog 45 = some ([Go.Value.nilFunc]) := by kernel_rfl
theorem ty46 : tyc Tryd.prog 46 = some (false, 1) := by kernel_rfl
theorem sl46 : slc Tryd.prog 46 = some (29, 1, 8) := by kernel_rfl
theorem ze46 : zer Tryd.prog 46 = some ([Go.Value.slice none 0 0]) := by kernel_rfl
theorem ty47 : tyc Tryd.prog 47 = some (false, 1) := by kernel_rfl
theorem sl47 : slc Tryd.prog 47 = some (9, 1, 16) := by kernel_rfl
theorem ze47 : zer Tryd.prog 47 = some ([Go.Value.slice none 0 0]) := by kernel_rfl
theorem ty48 : tyc Tryd.prog 48 = some (false, 1) := by kernel_rfl
theorem ze48 : zer Tryd.prog 48 = some ([Go.Value.nilFunc]) := by kernel_rfl
theorem ty49 : tyc Tryd.prog 49 = some (false, 1) := by kernel_rfl
theorem ze49 : zer Tryd.prog 49 = some ([Go.Value.pointer none]) := by kernel_rfl
theorem ty50 : tyc Tryd.prog 50 = some (false, 1) := by kernel_rfl
theorem ze50 : zer Tryd.prog 50 = some ([Go.Value.nilFunc]) := by kernel_rfl
theorem ty51 : tyc Tryd.prog 51 = some (false, 1) := by kernel_rfl
theorem ze51 : zer Tryd.prog 51 = some ([Go.Value.nilFunc]) := by kernel_rfl
theorem ty52 : tyc Tryd.prog 52 = some (false, 1) := by kernel_rfl
theorem ze52 : zer Tryd.prog 52 = some ([Go.Value.int Go.IntKind.i64 (0)]) := by kernel_rfl
theorem ty53 : tyc Tryd.prog 53 = some (false, 1) := by kernel_rfl
theorem ze53 : zer Tryd.prog 53 = some ([Go.Value.nilFunc]) := by kernel_rfl
theorem ty54 : tyc Tryd.prog 54 = some (false, 1) := by kernel_rfl
theorem ze54 : zer Tryd.prog 54 = some ([Go.Value.nilFunc]) := by kernel_rfl
theorem ty55 : tyc Tryd.prog 55 = some (false, 1) := by kernel_rfl
theorem ze55 : zer Tryd.prog 55 = some ([Go.Value.nilFunc]) := by kernel_rfl
theorem ty56 : tyc Tryd.prog 56 = some (false, 1) := by kernel_rfl
theorem ze56 : zer Tryd.prog 56 = some ([Go.Value.tuple #[Go.Value.slice none 0 0, Go.Value.slice none 0 0, Go.Value.int Go.IntKind.i64 (0)]]) := by kernel_rfl
theorem ty57 : tyc Tryd.prog 57 = some (false, 1) := by kernel_rfl
theorem ze57 : zer Tryd.prog 57 = some ([Go.Value.nilFunc]) := by kernel_rfl
theorem ty58 : tyc Tryd.prog 58 = some (false, 1) := by kernel_rfl
theorem ze58 : zer Tryd.prog 58 = some ([Go.Value.int Go.IntKind.u32 (0)]) := by kernel_rfl
theorem ty59 : tyc Tryd.prog 59 = some (false, 1) := by kernel_rfl
theorem ze59 : zer Tryd.prog 59 = some ([Go.Value.nilFunc]) := by kernel_rfl
theorem ty60 : tyc Tryd.prog 60 = some (false, 1) := by kernel_rfl
theorem ze60 : zer Tryd.prog 60 = some ([Go.Value.nilFunc]) := by kernel_rfl
theorem ty61 : tyc Tryd.prog 61 = some (false, 1) := by kernel_rfl
theorem ze61 : zer Tryd.prog 61 = some ([Go.Value.nilFunc]) := by kernel_rfl
theorem ty62 : tyc Tryd.prog 62 = some (false, 1) := by kernel_rfl
theorem sl62 : slc Tryd.prog 62 = some (68, 2, 16) := by kernel_rfl
theorem ze62 : zer Tryd.prog 62 = some ([Go.Value.slice none 0 0]) := by kernel_rfl
theorem ty63 : tyc Tryd.prog 63 = some (false, 1) := by kernel_rfl
theorem ze63 : zer Tryd.prog 63 = some ([Go.Value.pointer none]) := by kernel_rfl
theorem ty64 : tyc Tryd.prog 64 = some (true, 4) := by kernel_rfl
theorem ze64 : zer Tryd.prog 64 = some ([Go.Value.slice none 0 0, Go.Value.int Go.IntKind.i64 (0), Go.Value.int Go.IntKind.i64 (0), Go.Value.int Go.IntKind.i64 (0)]) := by kernel_rfl
theorem pl64 : plc Tryd.prog 64 = some ([(0, 1), (1, 1), (2, 1), (3, 1)]) := by kernel_rfl
theorem fl64_0 : fld Tryd.prog 64 0 = some (0, 1) := by kernel_rfl
theorem fl64_1 : fld Tryd.prog 64 1 = some (1, 1) := by kernel_rfl
theorem fl64_2 : fld Tryd.prog 64 2 = some (2, 1) := by kernel_rfl
theorem fl64_3 : fld Tryd.prog 64 3 = some (3, 1) := by kernel_rfl
theorem ty65 : tyc Tryd.prog 65 = some (true, 4) := by kernel_rfl
theorem ze65 : zer Tryd.prog 65 = some ([Go.Value.slice none 0 0, Go.Value.int Go.IntKind.i64 (0), Go.Value.int Go.IntKind.i64 (0), Go.Value.int Go.IntKind.i64 (0)]) := by kernel_rfl
theorem pl65 : plc Tryd.prog 65 = some ([(0, 1), (1, 1), (2, 1), (3, 1)]) := by kernel_rfl
theorem fl65_0 : fld Tryd.prog 65 0 = some (0, 1) := by kernel_rfl
theorem fl65_1 : fld Tryd.prog 65 1 = some (1, 1) := by kernel_rfl
theorem fl65_2 : fld Tryd.prog 65 2 = some (2, 1) := by kernel_rfl
theorem fl65_3 : fld Tryd.prog 65 3 = some (3, 1) := by kernel_rfl
theorem ty66 : tyc Tryd.prog 66 = some (false, 1) := by kernel_rfl
theorem ze66 : zer Tryd.prog 66 = some ([Go.Value.nilFunc]) := by kernel_rfl
theorem ty67 : tyc Tryd.prog 67 = some (true, 2) := by kernel_rfl
theorem ze67 : zer Tryd.prog 67 = some ([Go.Value.int Go.IntKind.i64 (0), Go.Value.int Go.IntKind.i64 (0)]) := by kernel_rfl
theorem pl67 : plc Tryd.prog 67 = some ([(0, 1), (1, 1)]) := by kernel_rfl
theorem fl67_0 : fld Tryd.prog 67 0 = some (0, 1) := by kernel_rfl
theorem fl67_1 : fld Tryd.prog 67 1 = some (1, 1) := by kernel_rfl
theorem ty68 : tyc Tryd.prog 68 = some (true, 2) := by kernel_rfl
theorem ze68 : zer Tryd.prog 68 = some ([Go.Value.int Go.IntKind.i64 (0), Go.Value.int Go.IntKind.i64 (0)]) := by kernel_rfl
theorem pl68 : plc Tryd.prog 68 = some ([(0, 1), (1, 1)]) := by kernel_rfl
theorem fl68_0 : fld Tryd.prog 68 0 = some (0, 1) := by kernel_rfl
theorem fl68_1 : fld Tryd.prog 68 1 = some (1, 1) := by kernel_rfl
theorem ty69 : tyc Tryd.prog 69 = some (false, 1) := by kernel_rfl
theorem ze69 : zer Tryd.prog 69 = some ([Go.Value.tuple #[Go.Value.int Go.IntKind.i64 (0), Go.Value.int Go.IntKind.i64 (0)]]) := by kernel_rfl
theorem ty70 : tyc Tryd.prog 70 = some (false, 1) := by kernel_rfl
theorem ze70 : zer Tryd.prog 70 = some ([Go.Value.nilFunc]) := by kernel_rfl
theorem ty71 : tyc Tryd.prog 71 = some (false, 1) := by kernel_rfl
theorem ze71 : zer Tryd.prog 71 = some ([Go.Value.nilFunc]) := by kernel_rfl
theorem ty72 : tyc Tryd.prog 72 = some (false, 1) := by kernel_rfl
theorem ze72 : zer Tryd.prog 72 = some ([Go.Value.int Go.IntKind.i64 (0)]) := by kernel_rfl
theorem ty73 : tyc Tryd.prog 73 = some (true, 3) := by kernel_rfl
theorem ze73 : zer Tryd.prog 73 = some ([Go.Value.int Go.IntKind.u64 (0), Go.Value.int Go.IntKind.i64 (0), Go.Value.int Go.IntKind.u64 (0)]) := by kernel_rfl
theorem pl73 : plc Tryd.prog 73 = some ([(0, 1), (1, 1), (2, 1)]) := by kernel_rfl
theorem fl73_0 : fld Tryd.prog 73 0 = some (0, 1) := by kernel_rfl
theorem fl73_1 : fld Tryd.prog 73 1 = some (1, 1) := by kernel_rfl
theorem fl73_2 : fld Tryd.prog 73 2 = some (2, 1) := by kernel_rfl
theorem ty74 : tyc Tryd.prog 74 = some (true, 3) := by kernel_rfl
theorem ze74 : zer Tryd.prog 74 = some ([Go.Value.int Go.IntKind.u64 (0), Go.Value.int Go.IntKind.i64 (0), Go.Value.int Go.IntKind.u64 (0)]) := by kernel_rfl
theorem pl74 : plc Tryd.prog 74 = some ([(0, 1), (1, 1), (2, 1)]) := by kernel_rfl
theorem fl74_0 : fld Tryd.prog 74 0 = some (0, 1) := by kernel_rfl
theorem fl74_1 : fld Tryd.prog 74 1 = some (1, 1) := by kernel_rfl
theorem fl74_2 : fld Tryd.prog 74 2 = some (2, 1) := by kernel_rfl
theorem ty75 : tyc Tryd.prog 75 = some (true, 17) := by kernel_rfl
theorem ze75 : zer Tryd.prog 75 = some ([Go.Value.int Go.IntKind.i64 (0), Go.Value.int Go.IntKind.u64 (0), Go.Value.int Go.IntKind.u64 (0), Go.Value.int Go.IntKind.u64 (0), Go.Value.int Go.IntKind.i64 (0), Go.Value.slice none 0 0, Go.Value.slice none 0 0, Go.Value.slice none 0 0, Go.Value.int Go.IntKind.u64 (0), Go.Value.int Go.IntKind.i64 (0), Go.Value.int Go.IntKind.u64 (0), Go.Value.int Go.IntKind.u64 (0), Go.Value.int Go.IntKind.u64 (0), Go.Value.int Go.IntKind.u64 (0), Go.Value.slice none 0 0, Go.Value.slice none 0 0, Go.Value.slice none 0 0]) := by kernel_rfl
theorem pl75 : plc Tryd.prog 75 = some ([(0, 1), (1, 1), (2, 6), (8, 3), (11, 1), (12, 5)]) := by kernel_rfl
theorem fl75_0 : fld Tryd.prog 75 0 = some (0, 1) := by kernel_rfl
theorem fl75_1 : fld Tryd.prog 75 1 = some (1, 1) := by kernel_rfl
theorem fl75_2 : fld Tryd.prog 75 2 = some (2, 6) := by kernel_rfl
theorem fl75_3 : fld Tryd.prog 75 3 = some (8, 3) := by kernel_rfl
theorem fl75_4 : fld Tryd.prog 75 4 = some (11, 1) := by kernel_rfl
theorem fl75_5 : fld Tryd.prog 75 5 = some (12, 5) := by kernel_rfl
theorem ty76 : tyc Tryd.prog 76 = some (true, 17) := by kernel_rfl
theorem ze76 : zer Tryd.prog 76 = some ([Go.Value.int Go.IntKind.i64 (0), Go.Value.int Go.IntKind.u64 (0), Go.Value.int Go.IntKind.u64 (0), Go.Value.int Go.IntKind.u64 (0), Go.Value.int Go.IntKind.i64 (0), Go.Value.slice none 0 0, Go.Value.slice none 0 0, Go.Value.slice none 0 0, Go.Value.int Go.IntKind.u64 (0), Go.Value.int Go.IntKind.i64 (0), Go.Value.int Go.IntKind.u64 (0), Go.Value.int Go.IntKind.u64 (0), Go.Value.int Go.IntKind.u64 (0), Go.Value.int Go.IntKind.u64 (0), Go.Value.slice none 0 0, Go.Value.slice none 0 0, Go.Value.slice none 0 0]) := by kernel_rfl
theorem pl76 : plc Tryd.prog 76 = some ([(0, 1), (1, 1), (2, 6), (8, 3), (11, 1), (12, 5)]) := by kernel_rfl
theorem fl76_0 : fld Tryd.prog 76 0 = some (0, 1) := by kernel_rfl
theorem fl76_1 : fld Tryd.prog 76 1 = some (1, 1) := by kernel_rfl
theorem fl76_2 : fld Tryd.prog 76 2 = some (2, 6) := by kernel_rfl
theorem fl76_3 : fld Tryd.prog 76 3 = some (8, 3) := by kernel_rfl
theorem fl76_4 : fld Tryd.prog 76 4 = some (11, 1) := by kernel_rfl
theorem fl76_5 : fld Tryd.prog 76 5 = some (12, 5) := by kernel_rfl
theorem ty77 : tyc Tryd.prog 77 = some (false, 1) := by kernel_rfl
theorem ze77 : zer Tryd.prog 77 = some ([Go.Value.nilFunc]) := by kernel_rfl
theorem ty78 : tyc Tryd.prog 78 = some (false, 1) := by kernel_rfl
theorem ze78 : zer Tryd.prog 78 = some ([Go.Value.tuple { toList := [Go.Value.agg #[Go.Value.int Go.IntKind.i64 (0), Go.Value.int Go.IntKind.u64 (0), Go.Value.int Go.IntKind.u64 (0), Go.Value.int Go.IntKind.u64 (0), Go.Value.int Go.IntKind.i64 (0), Go.Value.slice none 0 0, Go.Value.slice none 0 0, Go.Value.slice none 0 0, Go.Value.int Go.IntKind.u64 (0), Go.Value.int Go.IntKind.i64 (0), Go.Value.int Go.IntKind.u64 (0), Go.Value.int Go.IntKind.u64 (0), Go.Value.int Go.IntKind.u64 (0), Go.Value.int Go.IntKind.u64 (0), Go.Value.slice none 0 0, Go.Value.slice none 0 0, Go.Value.slice none 0 0], Go.Value.int Go.IntKind.i64 (0)] }]) := by kernel_rfl
theorem ty79 : tyc Tryd.prog 79 = some (false, 1) := by kernel_rfl
theorem ze79 : zer Tryd.prog 79 = some ([Go.Value.nilFunc]) := by kernel_rfl
theorem ty80 : tyc Tryd.prog 80 = some (false, 1) := by kernel_rfl
theorem ze80 : zer Tryd.prog 80 = some ([Go.Value.nilFunc]) := by kernel_rfl
theorem ty81 : tyc Tryd.prog 81 = some (false, 1) := by kernel_rfl
theorem ze81 : zer Tryd.prog 81 = some ([Go.Value.nilFunc]) := by kernel_rfl
theorem ty82 : tyc Tryd.prog 82 = some (false, 1) := by kernel_rfl
theorem ze82 : zer Tryd.prog 82 = some ([Go.Value.nilFunc]) := by kernel_rfl
theorem ty83 : tyc Tryd.prog 83 = some (false, 1) := by kernel_rfl
theorem ze83 : zer Tryd.prog 83 = some ([Go.Value.nilFunc]) := by kernel_rfl
theorem ty84 : tyc Tryd.prog 84 = some (false, 1) := by kernel_rfl
theorem sl84 : slc Tryd.prog 84 = some (52, 1, 8) := by kernel_rfl
theorem ze84 : zer Tryd.prog 84 = some ([Go.Value.slice none 0 0]) := by kernel_rfl
theorem ty85 : tyc Tryd.prog 85 = some (false, 1) := by kernel_rfl
theorem ze85 : zer Tryd.prog 85 = some ([Go.Value.nilFunc]) := by kernel_rfl
theorem ty86 : tyc Tryd.prog 86 = some (false, 1) := by kernel_rfl
theorem ze86 : zer Tryd.prog 86 = some ([Go.Value.nilFunc]) := by kernel_rfl
theorem ty87 : tyc Tryd.prog 87 = some (false, 1) := by kernel_rfl
theorem ze87 : zer Tryd.prog 87 = some ([Go.Value.nilFunc]) := by kernel_rfl
theorem ty88 : tyc Tryd.prog 88 = some (false, 1) := by kernel_rfl
theorem ze88 : zer Tryd.prog 88 = some ([Go.Value.nilFunc]) := by kernel_rfl
theorem ty89 : tyc Tryd.prog 89 = some (false, 1) := by kernel_rfl
theorem ze89 : zer Tryd.prog 89 = some ([Go.Value.nilFunc]) := by kernel_rfl
theorem ty90 : tyc Tryd.prog 90 = some (false, 1) := by kernel_rfl
theorem ze90 : zer Tryd.prog 90 = some ([Go.Value.nilFunc]) := by kernel_rfl
theorem ty91 : tyc Tryd.prog 91 = some (false, 1) := by kernel_rfl
theorem ze91 : zer Tryd.prog 91 = some ([Go.Value.nilFunc]) := by kernel_rfl
theorem ty92 : tyc Tryd.prog 92 = some (false, 1) := by kernel_rfl
theorem ze92 : zer Tryd.prog 92 = some ([Go.Value.nilFunc]) := by kernel_rfl
theorem ty93 : tyc Tryd.prog 93 = some (false, 1) := by kernel_rfl
theorem ze93 : zer Tryd.prog 93 = some ([Go.Value.nilFunc]) := by kernel_rfl
theorem ty94 : tyc Tryd.prog 94 = some (false, 1) := by kernel_rfl
theorem ze94 : zer Tryd.prog 94 = some ([Go.Value.nilFunc]) := by kernel_rfl
theorem ty95 : tyc Tryd.prog 95 = some (false, 1) := by kernel_rfl
theorem ze95 : zer Tryd.prog 95 = some ([Go.Value.nilFunc]) := by kernel_rfl
theorem ty96 : tyc Tryd.prog 96 = some (false, 1) := by kernel_rfl
theorem ze96 : zer Tryd.prog 96 = some ([Go.Value.nilFunc]) := by kernel_rfl
theorem ty97 : tyc Tryd.prog 97 = some (false, 1) := by kernel_rfl
theorem ze97 : zer Tryd.prog 97 = some ([Go.Value.nilFunc]) := by kernel_rfl
theorem ty98 : tyc Tryd.prog 98 = some (false, 1) := by kernel_rfl
theorem ze98 : zer Tryd.prog 98 = some ([Go.Value.nilFunc]) := by kernel_rfl
theorem ty99 : tyc Tryd.prog 99 = some (false, 1) := by kernel_rfl
theorem ze99 : zer Tryd.prog 99 = some ([Go.Value.nilFunc]) := by kernel_rfl
theorem ty100 : tyc Tryd.prog 100 = some (false, 1) := by kernel_rfl
theorem ze100 : zer Tryd.prog 100 = some ([Go.Value.nilFunc]) := by kernel_rfl
theorem ty101 : tyc Tryd.prog 101 = some (false, 1) := by kernel_rfl
theorem ze101 : zer Tryd.prog 101 = some ([Go.Value.nilFunc]) := by kernel_rfl
theorem ty102 : tyc Tryd.prog 102 = some (false, 1) := by kernel_rfl
theorem ze102 : zer Tryd.prog 102 = some ([Go.Value.nilFunc]) := by kernel_rfl
theorem ty103 : tyc Tryd.prog 103 = some (false, 1) := by kernel_rfl
theorem ze103 : zer Tryd.prog 103 = some ([Go.Value.int Go.IntKind.u64 (0)]) := by kernel_rfl
theorem ty104 : tyc Tryd.prog 104 = some (false, 1) := by kernel_rfl
theorem ze104 : zer Tryd.prog 104 = some ([Go.Value.nilIface]) := by kernel_rfl
theorem ty105 : tyc Tryd.prog 105 = some (false, 1) := by kernel_rfl
theorem ze105 : zer Tryd.prog 105 = some ([Go.Value.nilIface]) := by kernel_rfl
theorem ty106 : tyc Tryd.prog 106 = some (true, 3) := by kernel_rfl
theorem ze106 : zer Tryd.prog 106 = some ([Go.Value.slice none 0 0, Go.Value.int Go.IntKind.i64 (0), Go.Value.nilIface]) := by kernel_rfl
theorem pl106 : plc Tryd.prog 106 = some ([(0, 1), (1, 1), (2, 1)]) := by kernel_rfl
theorem fl106_0 : fld Tryd.prog 106 0 = some (0, 1) := by kernel_rfl
theorem fl106_1 : fld Tryd.prog 106 1 = some (1, 1) := by kernel_rfl
theorem fl106_2 : fld Tryd.prog 106 2 = some (2, 1) := by kernel_rfl
theorem ty107 : tyc Tryd.prog 107 = some (true, 3) := by kernel_rfl
theorem ze107 : zer Tryd.prog 107 = some ([Go.Value.slice none 0 0, Go.Value.int Go.IntKind.i64 (0), Go.Value.nilIface]) := by kernel_rfl
theorem pl107 : plc Tryd.prog 107 = some ([(0, 1), (1, 1), (2, 1)]) := by kernel_rfl
theorem fl107_0 : fld Tryd.prog 107 0 = some (0, 1) := by kernel_rfl
theorem fl107_1 : fld Tryd.prog 107 1 = some (1, 1) := by kernel_rfl
theorem fl107_2 : fld Tryd.prog 107 2 = some (2, 1) := by kernel_rfl
theorem ty108 : tyc Tryd.prog 108 = some (false, 1) := by kernel_rfl
theorem ze108 : zer Tryd.prog 108 = some ([Go.Value.nilFunc]) := by kernel_rfl
theorem ty109 : tyc Tryd.prog 109 = some (true, 16) := by kernel_rfl
theorem ze109 : zer Tryd.prog 109 = some ([Go.Value.int Go.IntKind.u32 (0), Go.Value.int Go.IntKind.u32 (0), Go.Value.int Go.IntKind.u32 (0), Go.Value.int Go.IntKind.u32 (0), Go.Value.int Go.IntKind.u32 (0), Go.Value.int Go.IntKind.u32 (0), Go.Value.int Go.IntKind.u32 (0), Go.Value.int Go.IntKind.u32 (0), Go.Value.int Go.IntKind.u32 (0), Go.Value.int Go.IntKind.u32 (0), Go.Value.int Go.IntKind.u32 (0), Go.Value.int Go.IntKind.u32 (0), Go.Value.int Go.IntKind.u32 (0), Go.Value.int Go.IntKind.u32 (0), Go.Value.int Go.IntKind.u32 (0), Go.Value.int Go.IntKind.u32 (0)]) := by kernel_rfl
theorem ar109 : arr Tryd.prog 109 = some (16, 58, 1) := by kernel_rfl
theorem ty110 : tyc Tryd.prog 110 = some (false, 1) := by kernel_rfl
theorem ze110 : zer Tryd.prog 110 = some ([Go.Value.nilFunc]) := by kernel_rfl
theorem ty111 : tyc Tryd.prog 111 = some (false, 1) := by kernel_rfl
theorem ze111 : zer Tryd.prog 111 = some ([Go.Value.nilFunc]) := by kernel_rfl
theorem ty112 : tyc Tryd.prog 112 = some (false, 1) := by kernel_rfl
theorem ze112 : zer Tryd.prog 112 = some ([Go.Value.nilFunc]) := by kernel_rfl
theorem ty113 : tyc Tryd.prog 113 = some (false, 1) := by kernel_rfl
theorem ze113 : zer Tryd.prog 113 = some ([Go.Value.nilFunc]) := by kernel_rfl
theorem ty114 : tyc Tryd.prog 114 = some (false, 1) := by kernel_rfl
theorem ze114 : zer Tryd.prog 114 = some ([Go.Value.nilFunc]) := by kernel_rfl
theorem ty115 : tyc Tryd.prog 115 = some (false, 1) := by kernel_rfl
theorem ze115 : zer Tryd.prog 115 = some ([Go.Value.nilFunc]) := by kernel_rfl
theorem ty116 : tyc Tryd.prog 116 = some (false, 1) := by kernel_rfl
theorem ze116 : zer Tryd.prog 116 = some ([Go.Value.nilFunc]) := by kernel_rfl
theorem ty117 : tyc Tryd.prog 117 = some (false, 1) := by kernel_rfl
theorem ze117 : zer Tryd.prog 117 = some ([Go.Value.nilFunc]) := by kernel_rfl
theorem ty118 : tyc Tryd.prog 118 = some (false, 1) := by kernel_rfl
theorem ze118 : zer Tryd.prog 118 = some ([Go.Value.nilFunc]) := by kernel_rfl
theorem ty119 : tyc Tryd.prog 119 = some (false, 1) := by kernel_rfl
theorem ze119 : zer Tryd.prog 119 = some ([Go.Value.nilFunc]) := by kernel_rfl
theorem ty120 : tyc Tryd.prog 120 = some (false, 1) := by kernel_rfl
theorem ze120 : zer Tryd.prog 120 = some ([Go.Value.nilFunc]) := by kernel_rfl
theorem ty121 : tyc Tryd.prog 121 = some (false, 1) := by kernel_rfl
theorem ze121 : zer Tryd.prog 121 = some ([Go.Value.pointer none]) := by kernel_rfl
theorem ty122 : tyc Tryd.prog 122 = some (false, 1) := by kernel_rfl
theorem ze122 : zer Tryd.prog 122 = some ([Go.Value.nilFunc]) := by kernel_rfl
theorem ty123 : tyc Tryd.prog 123 = some (false, 1) := by kernel_rfl
theorem ze123 : zer Tryd.prog 123 = some ([Go.Value.pointer none]) := by kernel_rfl
theorem ty124 : tyc Tryd.prog 124 = some (false, 1) := by kernel_rfl
theorem ze124 : zer Tryd.prog 124 = some ([Go.Value.pointer none]) := by kernel_rfl
theorem ty125 : tyc Tryd.prog 125 = some (true, 2) := by kernel_rfl
theorem ze125 : zer Tryd.prog 125 = some ([Go.Value.int Go.IntKind.i64 (0), Go.Value.nilIface]) := by kernel_rfl
theorem pl125 : plc Tryd.prog 125 = some ([(0, 1), (1, 1)]) := by kernel_rfl
theorem fl125_0 : fld Tryd.prog 125 0 = some (0, 1) := by kernel_rfl
theorem fl125_1 : fld Tryd.prog 125 1 = some (1, 1) := by kernel_rfl
theorem ty126 : tyc Tryd.prog 126 = some (true, 2) := by kernel_rfl
theorem ze126 : zer Tryd.prog 126 = some ([Go.Value.int Go.IntKind.i64 (0), Go.Value.nilIface]) := by kernel_rfl
theorem pl126 : plc Tryd.prog 126 = some ([(0, 1), (1, 1)]) := by kernel_rfl
theorem fl126_0 : fld Tryd.prog 126 0 = some (0, 1) := by kernel_rfl
theorem fl126_1 : fld Tryd.prog 126 1 = some (1, 1) := by kernel_rfl
theorem ty127 : tyc Tryd.prog 127 = some (false, 1) := by kernel_rfl
theorem ze127 : zer Tryd.prog 127 = some ([Go.Value.nilFunc]) := by kernel_rfl
theorem ty128 : tyc Tryd.prog 128 = some (false, 1) := by kernel_rfl
theorem ze128 : zer Tryd.prog 128 = some ([Go.Value.nilFunc]) := by kernel_rfl
theorem ty129 : tyc Tryd.prog 129 = some (false, 1) := by kernel_rfl
theorem ze129 : zer Tryd.prog 129 = some ([Go.Value.nilFunc]) := by kernel_rfl
theorem ty130 : tyc Tryd.prog 130 = some (false, 1) := by kernel_rfl
theorem ze130 : zer Tryd.prog 130 = some ([Go.Value.nilFunc]) := by kernel_rfl
theorem ty131 : tyc Tryd.prog 131 = some (false, 1) := by kernel_rfl
theorem ze131 : zer Tryd.prog 131 = some ([Go.Value.nilFunc]) := by kernel_rfl
theorem ty132 : tyc Tryd.prog 132 = some (false, 1) := by kernel_rfl
theorem ze132 : zer Tryd.prog 132 = some ([Go.Value.nilFunc]) := by kernel_rfl
theorem ty133 : tyc Tryd.prog 133 = some (false, 1) := by kernel_rfl
theorem ze133 : zer Tryd.prog 133 = some ([Go.Value.nilFunc]) := by kernel_rfl
theorem ty134 : tyc Tryd.prog 134 = some (false, 1) := by kernel_rfl
theorem ze134 : zer Tryd.prog 134 = some ([Go.Value.nilFunc]) := by kernel_rfl
theorem ty135 : tyc Tryd.prog 135 = some (false, 1) := by kernel_rfl
theorem ze135 : zer Tryd.prog 135 = some ([Go.Value.nilFunc]) := by kernel_rfl
theorem ty136 : tyc Tryd.prog 136 = some (false, 1) := by kernel_rfl
theorem ze136 : zer Tryd.prog 136 = some ([Go.Value.nilFunc]) := by kernel_rfl
theorem ty137 : tyc Tryd.prog 137 = some (false, 1) := by kernel_rfl
theorem ze137 : zer Tryd.prog 137 = some ([Go.Value.pointer none]) := by kernel_rfl
theorem ty138 : tyc Tryd.prog 138 = some (false, 1) := by kernel_rfl
theorem ze138 : zer Tryd.prog 138 = some ([Go.Value.int Go.IntKind.u64 (0)]) := by kernel_rfl
theorem ty139 : tyc Tryd.prog 139 = some (true, 3) := by kernel_rfl
theorem ze139 : zer Tryd.prog 139 = some ([Go.Value.pointer none, Go.Value.pointer none, Go.Value.int Go.IntKind.u64 (0)]) := by kernel_rfl
theorem pl139 : plc Tryd.prog 139 = some ([(0, 1), (1, 1), (2, 1)]) := by kernel_rfl
theorem fl139_0 : fld Tryd.prog 139 0 = some (0, 1) := by kernel_rfl
theorem fl139_1 : fld Tryd.prog 139 1 = some (1, 1) := by kernel_rfl
theorem fl139_2 : fld Tryd.prog 139 2 = some (2, 1) := by kernel_rfl
theorem ty140 : tyc Tryd.prog 140 = some (true, 3) := by kernel_rfl
theorem ze140 : zer Tryd.prog 140 = some ([Go.Value.pointer none, Go.Value.pointer none, Go.Value.int Go.IntKind.u64 (0)]) := by kernel_rfl
theorem pl140 : plc Tryd.prog 140 = some ([(0, 1), (1, 1), (2, 1)]) := by kernel_rfl
theorem fl140_0 : fld Tryd.prog 140 0 = some (0, 1) := by kernel_rfl
theorem fl140_1 : fld Tryd.prog 140 1 = some (1, 1) := by kernel_rfl
theorem fl140_2 : fld Tryd.prog 140 2 = some (2, 1) := by kernel_rfl
theorem ty141 : tyc Tryd.prog 141 = some (false, 1) := by kernel_rfl
theorem ze141 : zer Tryd.prog 141 = some ([Go.Value.nilFunc]) := by kernel_rfl
theorem ty142 : tyc Tryd.prog 142 = some (false, 1) := by kernel_rfl
theorem ze142 : zer Tryd.prog 142 = some ([Go.Value.nilIface]) := by kernel_rfl
theorem ty143 : tyc Tryd.prog 143 = some (false, 1) := by kernel_rfl
theorem ze143 : zer Tryd.prog 143 = some ([Go.Value.nilIface]) := by kernel_rfl
theorem ty144 : tyc Tryd.prog 144 = some (false, 1) := by kernel_rfl
theorem ze144 : zer Tryd.prog 144 = some ([Go.Value.nilFunc]) := by kernel_rfl
theorem ty145 : tyc Tryd.prog 145 = some (false, 1) := by kernel_rfl
theorem ze145 : zer Tryd.prog 145 = some ([Go.Value.int Go.IntKind.u8 (0)]) := by kernel_rfl
theorem ty146 : tyc Tryd.prog 146 = some (false, 1) := by kernel_rfl
theorem ze146 : zer Tryd.prog 146 = some ([Go.Value.nilFunc]) := by kernel_rfl
theorem ty147 : tyc Tryd.prog 147 = some (false, 1) := by kernel_rfl
theorem ze147 : zer Tryd.prog 147 = some ([Go.Value.nilFunc]) := by kernel_rfl
theorem ty148 : tyc Tryd.prog 148 = some (false, 1) := by kernel_rfl
theorem ze148 : zer Tryd.prog 148 = some ([Go.Value.nilFunc]) := by kernel_rfl
theorem ty149 : tyc Tryd.prog 149 = some (false, 1) := by kernel_rfl
theorem ze149 : zer Tryd.prog 149 = some ([Go.Value.nilFunc]) := by kernel_rfl
theorem ty150 : tyc Tryd.prog 150 = some (false, 1) := by kernel_rfl
theorem ze150 : zer Tryd.prog 150 = some ([Go.Value.nilFunc]) := by kernel_rfl
theorem ty151 : tyc Tryd.prog 151 = some (true, 1) := by kernel_rfl
theorem ze151 : zer Tryd.prog 151 = some ([Go.Value.pointer none]) := by kernel_rfl
theorem pl151 : plc Tryd.prog 151 = some ([(0, 1)]) := by kernel_rfl
theorem fl151_0 : fld Tryd.prog 151 0 = some (0, 1) := by kernel_rfl
theorem ty152 : tyc Tryd.prog 152 = some (true, 1) := by kernel_rfl
theorem ze152 : zer Tryd.prog 152 = some ([Go.Value.pointer none]) := by kernel_rfl
theorem pl152 : plc Tryd.prog 152 = some ([(0, 1)]) := by kernel_rfl
theorem fl152_0 : fld Tryd.prog 152 0 = some (0, 1) := by kernel_rfl
theorem ty153 : tyc Tryd.prog 153 = some (false, 1) := by kernel_rfl
theorem ze153 : zer Tryd.prog 153 = some ([Go.Value.pointer none]) := by kernel_rfl
theorem ty154 : tyc Tryd.prog 154 = some (false, 1) := by kernel_rfl
theorem ze154 : zer Tryd.prog 154 = some ([Go.Value.nilFunc]) := by kernel_rfl
theorem ty155 : tyc Tryd.prog 155 = some (false, 1) := by kernel_rfl
theorem ze155 : zer Tryd.prog 155 = some ([Go.Value.nilFunc]) := by kernel_rfl
theorem ty156 : tyc Tryd.prog 156 = some (false, 1) := by kernel_rfl
theorem ze156 : zer Tryd.prog 156 = some ([Go.Value.nilFunc]) := by kernel_rfl
theorem ty157 : tyc Tryd.prog 157 = some (false, 1) := by kernel_rfl
theorem ze157 : zer Tryd.prog 157 = some ([Go.Value.nilIface]) := by kernel_rfl
theorem ty158 : tyc Tryd.prog 158 = some (false, 1) := by kernel_rfl
theorem ze158 : zer Tryd.prog 158 = some ([Go.Value.tuple #[Go.Value.nilIface, Go.Value.bool false]]) := by kernel_rfl
theorem ty159 : tyc Tryd.prog 159 = some (false, 1) := by kernel_rfl
theorem ze159 : zer Tryd.prog 159 = some ([Go.Value.nilFunc]) := by kernel_rfl
theorem ty160 : tyc Tryd.prog 160 = some (false, 1) := by kernel_rfl
theorem ze160 : zer Tryd.prog 160 = some ([Go.Value.nilIface]) := by kernel_rfl
theorem ty161 : tyc Tryd.prog 161 = some (false, 1) := by kernel_rfl
theorem ze161 : zer Tryd.prog 161 = some ([Go.Value.nilFunc]) := by kernel_rfl
theorem ty162 : tyc Tryd.prog 162 = some (false, 1) := by kernel_rfl
theorem ze162 : zer Tryd.prog 162 = some ([Go.Value.nilIface]) := by kernel_rfl
theorem ty163 : tyc Tryd.prog 163 = some (false, 1) := by kernel_rfl
theorem sl163 : slc Tryd.prog 163 = some (105, 1, 16) := by kernel_rfl
theorem ze163 : zer Tryd.prog 163 = some ([Go.Value.slice none 0 0]) := by kernel_rfl
theorem ty164 : tyc Tryd.prog 164 = some (false, 1) := by kernel_rfl
theorem ze164 : zer Tryd.prog 164 = some ([Go.Value.nilFunc]) := by kernel_rfl
theorem ty165 : tyc Tryd.prog 165 = some (false, 1) := by kernel_rfl
theorem ze165 : zer Tryd.prog 165 = some ([Go.Value.nilFunc]) := by kernel_rfl
theorem ty166 : tyc Tryd.prog 166 = some (true, 4) := by kernel_rfl
theorem ze166 : zer Tryd.prog 166 = some ([Go.Value.pointer none, Go.Value.pointer none, Go.Value.pointer none, Go.Value.string { data := #[] }]) := by kernel_rfl
theorem pl166 : plc Tryd.prog 166 = some ([(0, 1), (1, 1), (2, 1), (3, 1)]) := by kernel_rfl
theorem fl166_0 : fld Tryd.prog 166 0 = some (0, 1) := by kernel_rfl
theorem fl166_1 : fld Tryd.prog 166 1 = some (1, 1) := by kernel_rfl
theorem fl166_2 : fld Tryd.prog 166 2 = some (2, 1) := by kernel_rfl
theorem fl166_3 : fld Tryd.prog 166 3 = some (3, 1) := by kernel_rfl
theorem ty167 : tyc Tryd.prog 167 = some (true, 4) := by kernel_rfl
theorem ze167 : zer Tryd.prog 167 = some ([Go.Value.pointer none, Go.Value.pointer none, Go.Value.pointer none, Go.Value.string { data := #[] }]) := by kernel_rfl
theorem pl167 : plc Tryd.prog 167 = some ([(0, 1), (1, 1), (2, 1), (3, 1)]) := by kernel_rfl
theorem fl167_0 : fld Tryd.prog 167 0 = some (0, 1) := by kernel_rfl
theorem fl167_1 : fld Tryd.prog 167 1 = some (1, 1) := by kernel_rfl
theorem fl167_2 : fld Tryd.prog 167 2 = some (2, 1) := by kernel_rfl
theorem fl167_3 : fld Tryd.prog 167 3 = some (3, 1) := by kernel_rfl
theorem ty168 : tyc Tryd.prog 168 = some (true, 0) := by kernel_rfl
theorem ze168 : zer Tryd.prog 168 = some ([]) := by kernel_rfl
theorem ar168 : arr Tryd.prog 168 = some (0, 16, 1) := by kernel_rfl
theorem ty169 : tyc Tryd.prog 169 = some (true, 0) := by kernel_rfl
theorem ze169 : zer Tryd.prog 169 = some ([]) := by kernel_rfl
theorem pl169 : plc Tryd.prog 169 = some ([(0, 0)]) := by kernel_rfl
theorem fl169_0 : fld Tryd.prog 169 0 = some (0, 0) := by kernel_rfl
theorem ty170 : tyc Tryd.prog 170 = some (true, 0) := by kernel_rfl
theorem ze170 : zer Tryd.prog 170 = some ([]) := by kernel_rfl
theorem pl170 : plc Tryd.prog 170 = some ([(0, 0)]) := by kernel_rfl
theorem fl170_0 : fld Tryd.prog 170 0 = some (0, 0) := by kernel_rfl
theorem ty171 : tyc Tryd.prog 171 = some (false, 1) := by kernel_rfl
theorem ze171 : zer Tryd.prog 171 = some ([Go.Value.nilFunc]) := by kernel_rfl
theorem ty172 : tyc Tryd.prog 172 = some (false, 1) := by kernel_rfl
theorem ze172 : zer Tryd.prog 172 = some ([Go.Value.int Go.IntKind.u8 (0)]) := by kernel_rfl
theorem ty173 : tyc Tryd.prog 173 = some (false, 1) := by kernel_rfl
theorem ze173 : zer Tryd.prog 173 = some ([Go.Value.nilFunc]) := by kernel_rfl
theorem ty174 : tyc Tryd.prog 174 = some (false, 1) := by kernel_rfl
theorem ze174 : zer Tryd.prog 174 = some ([Go.Value.pointer none]) := by kernel_rfl
theorem ty175 : tyc Tryd.prog 175 = some (false, 1) := by kernel_rfl
theorem ze175 : zer Tryd.prog 175 = some ([Go.Value.int Go.IntKind.i32 (0)]) := by kernel_rfl
theorem ty176 : tyc Tryd.prog 176 = some (false, 1) := by kernel_rfl
theorem ze176 : zer Tryd.prog 176 = some ([Go.Value.int Go.IntKind.i32 (0)]) := by kernel_rfl
theorem ty177 : tyc Tryd.prog 177 = some (true, 11) := by kernel_rfl
theorem ze177 : zer Tryd.prog 177 = some ([Go.Value.int Go.IntKind.u64 (0), Go.Value.int Go.IntKind.u64 (0), Go.Value.int Go.IntKind.u32 (0), Go.Value.int Go.IntKind.u8 (0), Go.Value.int Go.IntKind.u8 (0), Go.Value.int Go.IntKind.u8 (0), Go.Value.int Go.IntKind.u8 (0), Go.Value.nilFunc, Go.Value.pointer none, Go.Value.int Go.IntKind.i32 (0), Go.Value.int Go.IntKind.i32 (0)]) := by kernel_rfl
theorem pl177 : plc Tryd.prog 177 = some ([(0, 1), (1, 1), (2, 1), (3, 1), (4, 1), (5, 1), (6, 1), (7, 1), (8, 1), (9, 1), (10, 1)]) := by kernel_rfl
theorem fl177_0 : fld Tryd.prog 177 0 = some (0, 1) := by kernel_rfl
theorem fl177_1 : fld Tryd.prog 177 1 = some (1, 1) := by kernel_rfl
theorem fl177_2 : fld Tryd.prog 177 2 = some (2, 1) := by kernel_rfl
theorem fl177_3 : fld Tryd.prog 177 3 = some (3, 1) := by kernel_rfl
theorem fl177_4 : fld Tryd.prog 177 4 = some (4, 1) := by kernel_rfl
theorem fl177_5 : fld Tryd.prog 177 5 = some (5, 1) := by kernel_rfl
theorem fl177_6 : fld Tryd.prog 177 6 = some (6, 1) := by kernel_rfl
theorem fl177_7 : fld Tryd.prog 177 7 = some (7, 1) := by kernel_rfl
theorem fl177_8 : fld Tryd.prog 177 8 = some (8, 1) := by kernel_rfl
theorem fl177_9 : fld Tryd.prog 177 9 = some (9, 1) := by kernel_rfl
theorem fl177_10 : fld Tryd.prog 177 10 = some (10, 1) := by kernel_rfl
theorem ty178 : tyc Tryd.prog 178 = some (true, 11) := by kernel_rfl
theorem ze178 : zer Tryd.prog 178 = some ([Go.Value.int Go.IntKind.u64 (0), Go.Value.int Go.IntKind.u64 (0), Go.Value.int Go.IntKind.u32 (0), Go.Value.int Go.IntKind.u8 (0), Go.Value.int Go.IntKind.u8 (0), Go.Value.int Go.IntKind.u8 (0), Go.Value.int Go.IntKind.u8 (0), Go.Value.nilFunc, Go.Value.pointer none, Go.Value.int Go.IntKind.i32 (0), Go.Value.int Go.IntKind.i32 (0)]) := by kernel_rfl
theorem pl178 : plc Tryd.prog 178 = some ([(0, 1), (1, 1), (2, 1), (3, 1), (4, 1), (5, 1), (6, 1), (7, 1), (8, 1), (9, 1), (10, 1)]) := by kernel_rfl
theorem fl178_0 : fld Tryd.prog 178 0 = some (0, 1) := by kernel_rfl
theorem fl178_1 : fld Tryd.prog 178 1 = some (1, 1) := by kernel_rfl
theorem fl178_2 : fld Tryd.prog 178 2 = some (2, 1) := by kernel_rfl
theorem fl178_3 : fld Tryd.prog 178 3 = some (3, 1) := by kernel_rfl
theorem fl178_4 : fld Tryd.prog 178 4 = some (4, 1) := by kernel_rfl
theorem fl178_5 : fld Tryd.prog 178 5 = some (5, 1) := by kernel_rfl
theorem fl178_6 : fld Tryd.prog 178 6 = some (6, 1) := by kernel_rfl
theorem fl178_7 : fld Tryd.prog 178 7 = some (7, 1) := by kernel_rfl
theorem fl178_8 : fld Tryd.prog 178 8 = some (8, 1) := by kernel_rfl
theorem fl178_9 : fld Tryd.prog 178 9 = some (9, 1) := by kernel_rfl
theorem fl178_10 : fld Tryd.prog 178 10 = some (10, 1) := by kernel_rfl
theorem ty179 : tyc Tryd.prog 179 = some (false, 1) := by kernel_rfl
theorem ze179 : zer Tryd.prog 179 = some ([Go.Value.nilFunc]) := by kernel_rfl
theorem ty180 : tyc Tryd.prog 180 = some (false, 1) := by kernel_rfl
theorem ze180 : zer Tryd.prog 180 = some ([Go.Value.nilFunc]) := by kernel_rfl
theorem ty181 : tyc Tryd.prog 181 = some (true, 2) := by kernel_rfl
theorem ze181 : zer Tryd.prog 181 = some ([Go.Value.string { data := #[] }, Go.Value.int Go.IntKind.u8 (0)]) := by kernel_rfl
theorem pl181 : plc Tryd.prog 181 = some ([(0, 1), (1, 1)]) := by kernel_rfl
theorem fl181_0 : fld Tryd.prog 181 0 = some (0, 1) := by kernel_rfl
theorem fl181_1 : fld Tryd.prog 181 1 = some (1, 1) := by kernel_rfl
theorem ty182 : tyc Tryd.prog 182 = some (true, 2) := by kernel_rfl
theorem ze182 : zer Tryd.prog 182 = some ([Go.Value.string { data := #[] }, Go.Value.int Go.IntKind.u8 (0)]) := by kernel_rfl
theorem pl182 : plc Tryd.prog 182 = some ([(0, 1), (1, 1)]) := by kernel_rfl
theorem fl182_0 : fld Tryd.prog 182 0 = some (0, 1) := by kernel_rfl
theorem fl182_1 : fld Tryd.prog 182 1 = some (1, 1) := by kernel_rfl
theorem ty183 : tyc Tryd.prog 183 = some (false, 1) := by kernel_rfl
theorem ze183 : zer Tryd.prog 183 = some ([Go.Value.pointer none]) := by kernel_rfl
theorem ty184 : tyc Tryd.prog 184 = some (false, 1) := by kernel_rfl
theorem ze184 : zer Tryd.prog 184 = some ([Go.Value.nilFunc]) := by kernel_rfl
theorem ty185 : tyc Tryd.prog 185 = some (false, 1) := by kernel_rfl
theorem ze185 : zer Tryd.prog 185 = some ([Go.Value.int Go.IntKind.u16 (0)]) := by kernel_rfl
theorem ty186 : tyc Tryd.prog 186 = some (true, 5) := by kernel_rfl
theorem ze186 : zer Tryd.prog 186 = some ([Go.Value.int Go.IntKind.i32 (0), Go.Value.int Go.IntKind.u16 (0), Go.Value.int Go.IntKind.u16 (0), Go.Value.int Go.IntKind.u32 (0), Go.Value.int Go.IntKind.u32 (0)]) := by kernel_rfl
theorem pl186 : plc Tryd.prog 186 = some ([(0, 1), (1, 1), (2, 1), (3, 1), (4, 1)]) := by kernel_rfl
theorem fl186_0 : fld Tryd.prog 186 0 = some (0, 1) := by kernel_rfl
theorem fl186_1 : fld Tryd.prog 186 1 = some (1, 1) := by kernel_rfl
theorem fl186_2 : fld Tryd.prog 186 2 = some (2, 1) := by kernel_rfl
theorem fl186_3 : fld Tryd.prog 186 3 = some (3, 1) := by kernel_rfl
theorem fl186_4 : fld Tryd.prog 186 4 = some (4, 1) := by kernel_rfl
theorem ty187 : tyc Tryd.prog 187 = some (true, 5) := by kernel_rfl
theorem ze187 : zer Tryd.prog 187 = some ([Go.Value.int Go.IntKind.i32 (0), Go.Value.int Go.IntKind.u16 (0), Go.Value.int Go.IntKind.u16 (0), Go.Value.int Go.IntKind.u32 (0), Go.Value.int Go.IntKind.u32 (0)]) := by kernel_rfl
theorem pl187 : plc Tryd.prog 187 = some ([(0, 1), (1, 1), (2, 1), (3, 1), (4, 1)]) := by kernel_rfl
theorem fl187_0 : fld Tryd.prog 187 0 = some (0, 1) := by kernel_rfl
theorem fl187_1 : fld Tryd.prog 187 1 = some (1, 1) := by kernel_rfl
theorem fl187_2 : fld Tryd.prog 187 2 = some (2, 1) := by kernel_rfl
theorem fl187_3 : fld Tryd.prog 187 3 = some (3, 1) := by kernel_rfl
theorem fl187_4 : fld Tryd.prog 187 4 = some (4, 1) := by kernel_rfl
theorem ty188 : tyc Tryd.prog 188 = some (false, 1) := by kernel_rfl
theorem sl188 : slc Tryd.prog 188 = some (191, 4, 16) := by kernel_rfl
theorem ze188 : zer Tryd.prog 188 = some ([Go.Value.slice none 0 0]) := by kernel_rfl
theorem ty189 : tyc Tryd.prog 189 = some (false, 1) := by kernel_rfl
theorem ze189 : zer Tryd.prog 189 = some ([Go.Value.int Go.IntKind.i32 (0)]) := by kernel_rfl
theorem ty190 : tyc Tryd.prog 190 = some (true, 4) := by kernel_rfl
theorem ze190 : zer Tryd.prog 190 = some ([Go.Value.int Go.IntKind.i32 (0), Go.Value.int Go.IntKind.i32 (0), Go.Value.int Go.IntKind.i32 (0), Go.Value.int Go.IntKind.i32 (0)]) := by kernel_rfl
theorem pl190 : plc Tryd.prog 190 = some ([(0, 1), (1, 1), (2, 1), (3, 1)]) := by kernel_rfl
theorem fl190_0 : fld Tryd.prog 190 0 = some (0, 1) := by kernel_rfl
theorem fl190_1 : fld Tryd.prog 190 1 = some (1, 1) := by kernel_rfl
theorem fl190_2 : fld Tryd.prog 190 2 = some (2, 1) := by kernel_rfl
theorem fl190_3 : fld Tryd.prog 190 3 = some (3, 1) := by kernel_rfl
theorem ty191 : tyc Tryd.prog 191 = some (true, 4) := by kernel_rfl
theorem ze191 : zer Tryd.prog 191 = some ([Go.Value.int Go.IntKind.i32 (0), Go.Value.int Go.IntKind.i32 (0), Go.Value.int Go.IntKind.i32 (0), Go.Value.int Go.IntKind.i32 (0)]) := by kernel_rfl
theorem pl191 : plc Tryd.prog 191 = some ([(0, 1), (1, 1), (2, 1), (3, 1)]) := by kernel_rfl
theorem fl191_0 : fld Tryd.prog 191 0 = some (0, 1) := by kernel_rfl
theorem fl191_1 : fld Tryd.prog 191 1 = some (1, 1) := by kernel_rfl
theorem fl191_2 : fld Tryd.prog 191 2 = some (2, 1) := by kernel_rfl
theorem fl191_3 : fld Tryd.prog 191 3 = some (3, 1) := by kernel_rfl
theorem ty192 : tyc Tryd.prog 192 = some (false, 1) := by kernel_rfl
theorem ze192 : zer Tryd.prog 192 = some ([Go.Value.pointer none]) := by kernel_rfl
theorem ca2 : callable Tryd.prog 2 = true := by kernel_rfl
theorem ca3 : callable Tryd.prog 3 = true := by kernel_rfl
theorem ca4 : callable Tryd.prog 4 = true := by kernel_rfl
theorem ca5 : callable Tryd.prog 5 = true := by kernel_rfl
theorem ca6 : callable Tryd.prog 6 = true := by kernel_rfl
theorem ca7 : callable Tryd.prog 7 = true := by kernel_rfl
theorem ca8 : callable Tryd.prog 8 = true := by kernel_rfl
theorem ca9 : callable Tryd.prog 9 = true := by kernel_rfl
theorem ca10 : callable Tryd.prog 10 = true := by kernel_rfl
theorem ca11 : callable Tryd.prog 11 = true := by kernel_rfl
theorem ca12 : callable Tryd.prog 12 = true := by kernel_rfl
theorem ca13 : callable Tryd.prog 13 = true := by kernel_rfl
theorem ca14 : callable Tryd.prog 14 = true := by kernel_rfl
theorem ca15 : callable Tryd.prog 15 = true := by kernel_rfl
theorem ca16 : callable Tryd.prog 16 = true := by kernel_rfl
theorem ca17 : callable Tryd.prog 17 = true := by kernel_rfl
theorem ca18 : callable Tryd.prog 18 = true := by kernel_rfl
theorem ca19 : callable Tryd.prog 19 = true := by kernel_rfl
theorem ca20 : callable Tryd.prog 20 = true := by kernel_rfl
theorem ca21 : callable Tryd.prog 21 = true := by kernel_rfl
theorem ca22 : callable Tryd.prog 22 = true := by kernel_rfl
theorem ca23 : callable Tryd.prog 23 = true := by kernel_rfl
theorem ca24 : callable Tryd.prog 24 = true := by kernel_rfl
theorem ca25 : callable Tryd.prog 25 = true := by kernel_rfl
theorem ca26 : callable Tryd.prog 26 = true := by kernel_rfl
theorem ca27 : callable Tryd.prog 27 = true := by kernel_rfl
theorem ca28 : callable Tryd.prog 28 = true := by kernel_rfl
theorem ca29 : callable Tryd.prog 29 = true := by kernel_rfl
theorem ca30 : callable Tryd.prog 30 = true := by kernel_rfl
theorem ca31 : callable Tryd.prog 31 = true := by kernel_rfl
theorem ca32 : callable Tryd.prog 32 = true := by kernel_rfl
theorem ca33 : callable Tryd.prog 33 = true := by kernel_rfl
theorem ca34 : callable Tryd.prog 34 = true := by kernel_rfl
theorem ca35 : callable Tryd.prog 35 = true := by kernel_rfl
theorem ca36 : callable Tryd.prog 36 = true := by kernel_rfl
theorem ca37 : callable Tryd.prog 37 = true := by kernel_rfl
theorem ca38 : callable Tryd.prog 38 = true := by kernel_rfl
theorem ca39 : callable Tryd.prog 39 = true := by kernel_rfl
theorem ca40 : callable Tryd.prog 40 = true := by kernel_rfl
theorem ca41 : callable Tryd.prog 41 = true := by kernel_rfl
theorem ca42 : callable Tryd.prog 42 = true := by kernel_rfl
theorem ca43 : callable Tryd.prog 43 = true := by kernel_rfl
theorem ca44 : callable Tryd.prog 44 = true := by kernel_rfl
theorem ca45 : callable Tryd.prog 45 = true := by kernel_rfl
theorem ca46 : callable Tryd.prog 46 = true := by kernel_rfl
theorem ca47 : callable Tryd.prog 47 = true := by kernel_rfl
theorem ca48 : callable Tryd.prog 48 = true := by kernel_rfl
theorem ca49 : callable Tryd.prog 49 = true := by kernel_rfl
theorem ca50 : callable Tryd.prog 50 = true := by kernel_rfl
theorem ca51 : callable Tryd.prog 51 = true := by kernel_rfl
theorem ca52 : callable Tryd.prog 52 = true := by kernel_rfl
theorem ca53 : callable Tryd.prog 53 = true := by kernel_rfl
theorem ca54 : callable Tryd.prog 54 = true := by kernel_rfl
theorem ca55 : callable Tryd.prog 55 = true := by kernel_rfl
theorem ca56 : callable Tryd.prog 56 = true := by kernel_rfl
theorem ca57 : callable Tryd.prog 57 = true := by kernel_rfl
theorem ca58 : callable Tryd.prog 58 = true := by kernel_rfl
theorem ca59 : callable Tryd.prog 59 = true := by kernel_rfl
theorem ca60 : callable Tryd.prog 60 = true := by kernel_rfl
theorem ca61 : callable Tryd.prog 61 = true := by kernel_rfl
theorem ca62 : callable Tryd.prog 62 = true := by kernel_rfl
theorem ca63 : callable Tryd.prog 63 = true := by kernel_rfl
theorem ca64 : callable Tryd.prog 64 = true := by kernel_rfl
theorem ca65 : callable Tryd.prog 65 = true := by kernel_rfl
theorem ca66 : callable Tryd.prog 66 = true := by kernel_rfl
theorem ca67 : callable Tryd.prog 67 = true := by kernel_rfl
theorem ca68 : callable Tryd.prog 68 = true := by kernel_rfl
theorem ca69 : callable Tryd.prog 69 = true := by kernel_rfl
theorem ca70 : callable Tryd.prog 70 = true := by kernel_rfl
theorem ca71 : callable Tryd.prog 71 = true := by kernel_rfl
theorem ca72 : callable Tryd.prog 72 = true := by kernel_rfl
theorem ca73 : callable Tryd.prog 73 = true := by kernel_rfl
theorem ca74 : callable Tryd.prog 74 = true := by kernel_rfl
theorem ca75 : callable Tryd.prog 75 = true := by kernel_rfl
theorem ca76 : callable Tryd.prog 76 = true := by kernel_rfl
theorem ca77 : callable Tryd.prog 77 = true := by kernel_rfl
theorem ca78 : callable Tryd.prog 78 = true := by kernel_rfl
theorem ca79 : callable Tryd.prog 79 = true := by kernel_rfl
theorem ca80 : callable Tryd.prog 80 = true := by kernel_rfl
theorem ca81 : callable Tryd.prog 81 = true := by kernel_rfl
theorem ca82 : callable Tryd.prog 82 = true := by kernel_rfl
theorem ca83 : callable Tryd.prog 83 = true := by kernel_rfl
theorem ca84 : callable Tryd.prog 84 = true := by kernel_rfl
theorem ca85 : callable Tryd.prog 85 = true := by kernel_rfl
theorem ca86 : callable Tryd.prog 86 = true := by kernel_rfl
theorem ca87 : callable Tryd.prog 87 = true := by kernel_rfl
theorem ca88 : callable Tryd.prog 88 = true := by kernel_rfl
theorem ca89 : callable Tryd.prog 89 = true := by kernel_rfl
theorem ca90 : callable Tryd.prog 90 = true := by kernel_rfl
theorem ca91 : callable Tryd.prog 91 = true := by kernel_rfl
theorem ca95 : callable Tryd.prog 95 = true := by kernel_rfl
theorem ca96 : callable Tryd.prog 96 = true := by kernel_rfl
theorem ca97 : callable Tryd.prog 97 = true := by kernel_rfl
theorem ca120 : callable Tryd.prog 120 = true := by kernel_rfl
theorem ca140 : callable Tryd.prog 140 = true := by kernel_rfl
end Go.Lw
