import Derived.Test.YthaomecbklmmdaaRules3
import Derived.Test.YthaomecbklmmdaaProg
/-! Facts about the types and functions of this seat, printed by a program. -/
namespace Go.Lw
open Go.Proofs
theorem ty0 : tyc Try.prog 0 = some (false, 1) := by kernel_rfl
theorem ze0 : zer Try.prog 0 = some ([Go.Value.tuple #[]]) := by kernel_rfl
theorem ty1 : tyc Try.prog 1 = some (false, 1) := by kernel_rfl
theorem ze1 : zer Try.prog 1 = some ([Go.Value.nilFunc]) := by kernel_rfl
theorem ty2 : tyc Try.prog 2 = some (false, 1) := by kernel_rfl
theorem ze2 : zer Try.prog 2 = some ([Go.Value.int Go.IntKind.i64 (0)]) := by kernel_rfl
theorem ty3 : tyc Try.prog 3 = some (false, 1) := by kernel_rfl
theorem ze3 : zer Try.prog 3 = some ([Go.Value.int Go.IntKind.i64 (0)]) := by kernel_rfl
theorem ty4 : tyc Try.prog 4 = some (false, 1) := by kernel_rfl
theorem ze4 : zer Try.prog 4 = some ([Go.Value.bool false]) := by kernel_rfl
theorem ty5 : tyc Try.prog 5 = some (false, 1) := by kernel_rfl
theorem ze5 : zer Try.prog 5 = some ([Go.Value.int Go.IntKind.u8 (0)]) := by kernel_rfl
theorem ty6 : tyc Try.prog 6 = some (false, 1) := by kernel_rfl
theorem ze6 : zer Try.prog 6 = some ([Go.Value.int Go.IntKind.u8 (0)]) := by kernel_rfl
theorem ty7 : tyc Try.prog 7 = some (true, 4) := by kernel_rfl
theorem ze7 : zer Try.prog 7 = some ([Go.Value.int Go.IntKind.i64 (0), Go.Value.int Go.IntKind.i64 (0), Go.Value.bool false, Go.Value.int Go.IntKind.u8 (0)]) := by kernel_rfl
theorem pl7 : plc Try.prog 7 = some ([(0, 1), (1, 1), (2, 1), (3, 1)]) := by kernel_rfl
theorem fl7_0 : fld Try.prog 7 0 = some (0, 1) := by kernel_rfl
theorem fl7_1 : fld Try.prog 7 1 = some (1, 1) := by kernel_rfl
theorem fl7_2 : fld Try.prog 7 2 = some (2, 1) := by kernel_rfl
theorem fl7_3 : fld Try.prog 7 3 = some (3, 1) := by kernel_rfl
theorem ty8 : tyc Try.prog 8 = some (true, 4) := by kernel_rfl
theorem ze8 : zer Try.prog 8 = some ([Go.Value.int Go.IntKind.i64 (0), Go.Value.int Go.IntKind.i64 (0), Go.Value.bool false, Go.Value.int Go.IntKind.u8 (0)]) := by kernel_rfl
theorem pl8 : plc Try.prog 8 = some ([(0, 1), (1, 1), (2, 1), (3, 1)]) := by kernel_rfl
theorem fl8_0 : fld Try.prog 8 0 = some (0, 1) := by kernel_rfl
theorem fl8_1 : fld Try.prog 8 1 = some (1, 1) := by kernel_rfl
theorem fl8_2 : fld Try.prog 8 2 = some (2, 1) := by kernel_rfl
theorem fl8_3 : fld Try.prog 8 3 = some (3, 1) := by kernel_rfl
theorem ty9 : tyc Try.prog 9 = some (false, 1) := by kernel_rfl
theorem ze9 : zer Try.prog 9 = some ([Go.Value.string { data := #[] }]) := by kernel_rfl
theorem ty10 : tyc Try.prog 10 = some (false, 1) := by kernel_rfl
theorem ze10 : zer Try.prog 10 = some ([Go.Value.string { data := #[] }]) := by kernel_rfl
theorem ty11 : tyc Try.prog 11 = some (false, 1) := by kernel_rfl
theorem ze11 : zer Try.prog 11 = some ([Go.Value.string { data := #[] }]) := by kernel_rfl
theorem ty12 : tyc Try.prog 12 = some (false, 1) := by kernel_rfl
theorem ze12 : zer Try.prog 12 = some ([Go.Value.int Go.IntKind.u64 (0)]) := by kernel_rfl
theorem ty13 : tyc Try.prog 13 = some (true, 2) := by kernel_rfl
theorem ze13 : zer Try.prog 13 = some ([Go.Value.string { data := #[] }, Go.Value.int Go.IntKind.u64 (0)]) := by kernel_rfl
theorem pl13 : plc Try.prog 13 = some ([(0, 1), (1, 1)]) := by kernel_rfl
theorem fl13_0 : fld Try.prog 13 0 = some (0, 1) := by kernel_rfl
theorem fl13_1 : fld Try.prog 13 1 = some (1, 1) := by kernel_rfl
theorem ty14 : tyc Try.prog 14 = some (true, 2) := by kernel_rfl
theorem ze14 : zer Try.prog 14 = some ([Go.Value.string { data := #[] }, Go.Value.int Go.IntKind.u64 (0)]) := by kernel_rfl
theorem pl14 : plc Try.prog 14 = some ([(0, 1), (1, 1)]) := by kernel_rfl
theorem fl14_0 : fld Try.prog 14 0 = some (0, 1) := by kernel_rfl
theorem fl14_1 : fld Try.prog 14 1 = some (1, 1) := by kernel_rfl
theorem ty15 : tyc Try.prog 15 = some (false, 1) := by kernel_rfl
theorem ze15 : zer Try.prog 15 = some ([Go.Value.pointer none]) := by kernel_rfl
theorem ty16 : tyc Try.prog 16 = some (false, 1) := by kernel_rfl
theorem ze16 : zer Try.prog 16 = some ([Go.Value.pointer none]) := by kernel_rfl
theorem ty17 : tyc Try.prog 17 = some (false, 1) := by kernel_rfl
theorem ze17 : zer Try.prog 17 = some ([Go.Value.pointer none]) := by kernel_rfl
theorem ty18 : tyc Try.prog 18 = some (true, 1) := by kernel_rfl
theorem ze18 : zer Try.prog 18 = some ([Go.Value.pointer none]) := by kernel_rfl
theorem pl18 : plc Try.prog 18 = some ([(0, 1)]) := by kernel_rfl
theorem fl18_0 : fld Try.prog 18 0 = some (0, 1) := by kernel_rfl
theorem ty19 : tyc Try.prog 19 = some (true, 1) := by kernel_rfl
theorem ze19 : zer Try.prog 19 = some ([Go.Value.pointer none]) := by kernel_rfl
theorem pl19 : plc Try.prog 19 = some ([(0, 1)]) := by kernel_rfl
theorem fl19_0 : fld Try.prog 19 0 = some (0, 1) := by kernel_rfl
theorem ty20 : tyc Try.prog 20 = some (false, 1) := by kernel_rfl
theorem ze20 : zer Try.prog 20 = some ([Go.Value.nilIface]) := by kernel_rfl
theorem ty21 : tyc Try.prog 21 = some (false, 1) := by kernel_rfl
theorem ze21 : zer Try.prog 21 = some ([Go.Value.int Go.IntKind.i32 (0)]) := by kernel_rfl
theorem ty22 : tyc Try.prog 22 = some (false, 1) := by kernel_rfl
theorem sl22 : slc Try.prog 22 = some (42, 15, 184) := by kernel_rfl
theorem ze22 : zer Try.prog 22 = some ([Go.Value.slice none 0 0]) := by kernel_rfl
theorem ty23 : tyc Try.prog 23 = some (false, 1) := by kernel_rfl
theorem ze23 : zer Try.prog 23 = some ([Go.Value.nilFunc]) := by kernel_rfl
theorem ty24 : tyc Try.prog 24 = some (false, 1) := by kernel_rfl
theorem sl24 : slc Try.prog 24 = some (46, 4, 48) := by kernel_rfl
theorem ze24 : zer Try.prog 24 = some ([Go.Value.slice none 0 0]) := by kernel_rfl
theorem ty25 : tyc Try.prog 25 = some (false, 1) := by kernel_rfl
theorem ze25 : zer Try.prog 25 = some ([Go.Value.int Go.IntKind.i64 (0)]) := by kernel_rfl
theorem ty26 : tyc Try.prog 26 = some (false, 1) := by kernel_rfl
theorem ze26 : zer Try.prog 26 = some ([Go.Value.tuple #[Go.Value.slice none 0 0, Go.Value.int Go.IntKind.i64 (0)]]) := by kernel_rfl
theorem ty27 : tyc Try.prog 27 = some (false, 1) := by kernel_rfl
theorem ze27 : zer Try.prog 27 = some ([Go.Value.nilFunc]) := by kernel_rfl
theorem ty28 : tyc Try.prog 28 = some (false, 1) := by kernel_rfl
theorem sl28 : slc Try.prog 28 = some (48, 15, 184) := by kernel_rfl
theorem ze28 : zer Try.prog 28 = some ([Go.Value.slice none 0 0]) := by kernel_rfl
theorem ty29 : tyc Try.prog 29 = some (false, 1) := by kernel_rfl
theorem ze29 : zer Try.prog 29 = some ([Go.Value.nilFunc]) := by kernel_rfl
theorem ty30 : tyc Try.prog 30 = some (false, 1) := by kernel_rfl
theorem ze30 : zer Try.prog 30 = some ([Go.Value.nilFunc]) := by kernel_rfl
theorem ty31 : tyc Try.prog 31 = some (false, 1) := by kernel_rfl
theorem ze31 : zer Try.prog 31 = some ([Go.Value.nilFunc]) := by kernel_rfl
theorem ty32 : tyc Try.prog 32 = some (false, 1) := by kernel_rfl
theorem ze32 : zer Try.prog 32 = some ([Go.Value.int Go.IntKind.u64 (0)]) := by kernel_rfl
theorem ty33 : tyc Try.prog 33 = some (false, 1) := by kernel_rfl
theorem ze33 : zer Try.prog 33 = some ([Go.Value.int Go.IntKind.i64 (0)]) := by kernel_rfl
theorem ty34 : tyc Try.prog 34 = some (false, 1) := by kernel_rfl
theorem sl34 : slc Try.prog 34 = some (66, 6, 96) := by kernel_rfl
theorem ze34 : zer Try.prog 34 = some ([Go.Value.slice none 0 0]) := by kernel_rfl
theorem ty35 : tyc Try.prog 35 = some (false, 1) := by kernel_rfl
theorem sl35 : slc Try.prog 35 = some (3, 1, 8) := by kernel_rfl
theorem ze35 : zer Try.prog 35 = some ([Go.Value.slice none 0 0]) := by kernel_rfl
theorem ty36 : tyc Try.prog 36 = some (true, 2) := by kernel_rfl
theorem ze36 : zer Try.prog 36 = some ([Go.Value.slice none 0 0, Go.Value.slice none 0 0]) := by kernel_rfl
theorem pl36 : plc Try.prog 36 = some ([(0, 1), (1, 1)]) := by kernel_rfl
theorem fl36_0 : fld Try.prog 36 0 = some (0, 1) := by kernel_rfl
theorem fl36_1 : fld Try.prog 36 1 = some (1, 1) := by kernel_rfl
theorem ty37 : tyc Try.prog 37 = some (true, 2) := by kernel_rfl
theorem ze37 : zer Try.prog 37 = some ([Go.Value.slice none 0 0, Go.Value.slice none 0 0]) := by kernel_rfl
theorem pl37 : plc Try.prog 37 = some ([(0, 1), (1, 1)]) := by kernel_rfl
theorem fl37_0 : fld Try.prog 37 0 = some (0, 1) := by kernel_rfl
theorem fl37_1 : fld Try.prog 37 1 = some (1, 1) := by kernel_rfl
theorem ty38 : tyc Try.prog 38 = some (false, 1) := by kernel_rfl
theorem sl38 : slc Try.prog 38 = some (5, 1, 1) := by kernel_rfl
theorem ze38 : zer Try.prog 38 = some ([Go.Value.slice none 0 0]) := by kernel_rfl
theorem ty39 : tyc Try.prog 39 = some (true, 14) := by kernel_rfl
theorem ze39 : zer Try.prog 39 = some ([Go.Value.int Go.IntKind.i64 (0), Go.Value.int Go.IntKind.i64 (0), Go.Value.int Go.IntKind.i64 (0), Go.Value.int Go.IntKind.u64 (0), Go.Value.int Go.IntKind.u64 (0), Go.Value.int Go.IntKind.u64 (0), Go.Value.slice none 0 0, Go.Value.int Go.IntKind.u64 (0), Go.Value.bool false, Go.Value.int Go.IntKind.u64 (0), Go.Value.slice none 0 0, Go.Value.slice none 0 0, Go.Value.slice none 0 0, Go.Value.bool false]) := by kernel_rfl
theorem pl39 : plc Try.prog 39 = some ([(0, 1), (1, 1), (2, 1), (3, 1), (4, 1), (5, 1), (6, 1), (7, 1), (8, 1), (9, 1), (10, 2), (12, 1), (13, 1)]) := by kernel_rfl
theorem fl39_0 : fld Try.prog 39 0 = some (0, 1) := by kernel_rfl
theorem fl39_1 : fld Try.prog 39 1 = some (1, 1) := by kernel_rfl
theorem fl39_2 : fld Try.prog 39 2 = some (2, 1) := by kernel_rfl
theorem fl39_3 : fld Try.prog 39 3 = some (3, 1) := by kernel_rfl
theorem fl39_4 : fld Try.prog 39 4 = some (4, 1) := by kernel_rfl
theorem fl39_5 : fld Try.prog 39 5 = some (5, 1) := by kernel_rfl
theorem fl39_6 : fld Try.prog 39 6 = some (6, 1) := by kernel_rfl
theorem fl39_7 : fld Try.prog 39 7 = some (7, 1) := by kernel_rfl
theorem fl39_8 : fld Try.prog 39 8 = some (8, 1) := by kernel_rfl
theorem fl39_9 : fld Try.prog 39 9 = some (9, 1) := by kernel_rfl
theorem fl39_10 : fld Try.prog 39 10 = some (10, 2) := by kernel_rfl
theorem fl39_11 : fld Try.prog 39 11 = some (12, 1) := by kernel_rfl
theorem fl39_12 : fld Try.prog 39 12 = some (13, 1) := by kernel_rfl
theorem ty40 : tyc Try.prog 40 = some (true, 14) := by kernel_rfl
theorem ze40 : zer Try.prog 40 = some ([Go.Value.int Go.IntKind.i64 (0), Go.Value.int Go.IntKind.i64 (0), Go.Value.int Go.IntKind.i64 (0), Go.Value.int Go.IntKind.u64 (0), Go.Value.int Go.IntKind.u64 (0), Go.Value.int Go.IntKind.u64 (0), Go.Value.slice none 0 0, Go.Value.int Go.IntKind.u64 (0), Go.Value.bool false, Go.Value.int Go.IntKind.u64 (0), Go.Value.slice none 0 0, Go.Value.slice none 0 0, Go.Value.slice none 0 0, Go.Value.bool false]) := by kernel_rfl
theorem pl40 : plc Try.prog 40 = some ([(0, 1), (1, 1), (2, 1), (3, 1), (4, 1), (5, 1), (6, 1), (7, 1), (8, 1), (9, 1), (10, 2), (12, 1), (13, 1)]) := by kernel_rfl
theorem fl40_0 : fld Try.prog 40 0 = some (0, 1) := by kernel_rfl
theorem fl40_1 : fld Try.prog 40 1 = some (1, 1) := by kernel_rfl
theorem fl40_2 : fld Try.prog 40 2 = some (2, 1) := by kernel_rfl
theorem fl40_3 : fld Try.prog 40 3 = some (3, 1) := by kernel_rfl
theorem fl40_4 : fld Try.prog 40 4 = some (4, 1) := by kernel_rfl
theorem fl40_5 : fld Try.prog 40 5 = some (5, 1) := by kernel_rfl
theorem fl40_6 : fld Try.prog 40 6 = some (6, 1) := by kernel_rfl
theorem fl40_7 : fld Try.prog 40 7 = some (7, 1) := by kernel_rfl
theorem fl40_8 : fld Try.prog 40 8 = some (8, 1) := by kernel_rfl
theorem fl40_9 : fld Try.prog 40 9 = some (9, 1) := by kernel_rfl
theorem fl40_10 : fld Try.prog 40 10 = some (10, 2) := by kernel_rfl
theorem fl40_11 : fld Try.prog 40 11 = some (12, 1) := by kernel_rfl
theorem fl40_12 : fld Try.prog 40 12 = some (13, 1) := by kernel_rfl
theorem ty41 : tyc Try.prog 41 = some (true, 15) := by kernel_rfl
theorem ze41 : zer Try.prog 41 = some ([Go.Value.int Go.IntKind.u64 (0), Go.Value.int Go.IntKind.i64 (0), Go.Value.int Go.IntKind.i64 (0), Go.Value.int Go.IntKind.i64 (0), Go.Value.int Go.IntKind.u64 (0), Go.Value.int Go.IntKind.u64 (0), Go.Value.int Go.IntKind.u64 (0), Go.Value.slice none 0 0, Go.Value.int Go.IntKind.u64 (0), Go.Value.bool false, Go.Value.int Go.IntKind.u64 (0), Go.Value.slice none 0 0, Go.Value.slice none 0 0, Go.Value.slice none 0 0, Go.Value.bool false]) := by kernel_rfl
theorem pl41 : plc Try.prog 41 = some ([(0, 1), (1, 14)]) := by kernel_rfl
theorem fl41_0 : fld Try.prog 41 0 = some (0, 1) := by kernel_rfl
theorem fl41_1 : fld Try.prog 41 1 = some (1, 14) := by kernel_rfl
theorem ty42 : tyc Try.prog 42 = some (true, 15) := by kernel_rfl
theorem ze42 : zer Try.prog 42 = some ([Go.Value.int Go.IntKind.u64 (0), Go.Value.int Go.IntKind.i64 (0), Go.Value.int Go.IntKind.i64 (0), Go.Value.int Go.IntKind.i64 (0), Go.Value.int Go.IntKind.u64 (0), Go.Value.int Go.IntKind.u64 (0), Go.Value.int Go.IntKind.u64 (0), Go.Value.slice none 0 0, Go.Value.int Go.IntKind.u64 (0), Go.Value.bool false, Go.Value.int Go.IntKind.u64 (0), Go.Value.slice none 0 0, Go.Value.slice none 0 0, Go.Value.slice none 0 0, Go.Value.bool false]) := by kernel_rfl
theorem pl42 : plc Try.prog 42 = some ([(0, 1), (1, 14)]) := by kernel_rfl
theorem fl42_0 : fld Try.prog 42 0 = some (0, 1) := by kernel_rfl
theorem fl42_1 : fld Try.prog 42 1 = some (1, 14) := by kernel_rfl
theorem ty43 : tyc Try.prog 43 = some (false, 1) := by kernel_rfl
theorem ze43 : zer Try.prog 43 = some ([Go.Value.nilFunc]) := by kernel_rfl
theorem ty44 : tyc Try.prog 44 = some (false, 1) := by kernel_rfl
theorem ze44 : zer Try.prog 44 = some ([Go.Value.nilFunc]) := by kernel_rfl
theorem ty45 : tyc Try.prog 45 = some (true, 4) := by kernel_rfl
theorem ze45 : zer Try.prog 45 = some ([Go.Value.int Go.IntKind.i64 (0), Go.Value.int Go.IntKind.i64 (0), Go.Value.int Go.IntKind.i64 (0), Go.Value.slice none 0 0]) := by kernel_rfl
theorem pl45 : plc Try.prog 45 = some ([(0, 1), (1, 1), (2, 1), (3, 1)]) := by kernel_rfl
theorem fl45_0 : fld Try.prog 45 0 = some (0, 1) := by kernel_rfl
theorem fl45_1 : fld Try.prog 45 1 = some (1, 1) := by kernel_rfl
theorem fl45_2 : fld Try.prog 45 2 = some (2, 1) := by kernel_rfl
theorem fl45_3 : fld Try.prog 45 3 = some (3, 1) := by kernel_rfl
theorem ty46 : tyc Try.prog 46 = some (true, 4) := by kernel_rfl
theorem ze46 : zer Try.prog 46 = some ([Go.Value.int Go.IntKind.i64 (0), Go.Value.int Go.IntKind.i64 (0), Go.Value.int Go.IntKind.i64 (0), Go.Value.slice none 0 0]) := by kernel_rfl
theorem pl46 : plc Try.prog 46 = some ([(0, 1), (1, 1), (2, 1), (3, 1)]) := by kernel_rfl
theorem fl46_0 : fld Try.prog 46 0 = some (0, 1) := by kernel_rfl
theorem fl46_1 : fld Try.prog 46 1 = some (1, 1) := by kernel_rfl
theorem fl46_2 : fld Try.prog 46 2 = some (2, 1) := by kernel_rfl
theorem fl46_3 : fld Try.prog 46 3 = some (3, 1) := by kernel_rfl
theorem ty47 : tyc Try.prog 47 = some (false, 1) := by kernel_rfl
theorem ze47 : zer Try.prog 47 = some ([Go.Value.nilFunc]) := by kernel_rfl
theorem ty48 : tyc Try.prog 48 = some (true, 15) := by kernel_rfl
theorem ze48 : zer Try.prog 48 = some ([Go.Value.int Go.IntKind.u64 (0), Go.Value.int Go.IntKind.i64 (0), Go.Value.int Go.IntKind.i64 (0), Go.Value.int Go.IntKind.i64 (0), Go.Value.int Go.IntKind.u64 (0), Go.Value.int Go.IntKind.u64 (0), Go.Value.int Go.IntKind.u64 (0), Go.Value.slice none 0 0, Go.Value.int Go.IntKind.u64 (0), Go.Value.bool false, Go.Value.int Go.IntKind.u64 (0), Go.Value.slice none 0 0, Go.Value.slice none 0 0, Go.Value.slice none 0 0, Go.Value.bool false]) := by kernel_rfl
theorem pl48 : plc Try.prog 48 = some ([(0, 1), (1, 14)]) := by kernel_rfl
theorem fl48_0 : fld Try.prog 48 0 = some (0, 1) := by kernel_rfl
theorem fl48_1 : fld Try.prog 48 1 = some (1, 14) := by kernel_rfl
theorem ty49 : tyc Try.prog 49 = some (false, 1) := by kernel_rfl
theorem ze49 : zer Try.prog 49 = some ([Go.Value.nilFunc]) := by kernel_rfl
theorem ty50 : tyc Try.prog 50 = some (false, 1) := by kernel_rfl
theorem ze50 : zer Try.prog 50 = some ([Go.Value.nilFunc]) := by kernel_rfl
theorem ty51 : tyc Try.prog 51 = some (false, 1) := by kernel_rfl
theorem ze51 : zer Try.prog 51 = some ([Go.Value.map none]) := by kernel_rfl
theorem ty52 : tyc Try.prog 52 = some (false, 1) := by kernel_rfl
theorem ze52 : zer Try.prog 52 = some ([Go.Value.map none]) := by kernel_rfl
theorem ty53 : tyc Try.prog 53 = some (false, 1) := by kernel_rfl
theorem ze53 : zer Try.prog 53 = some ([Go.Value.pointer none]) := by kernel_rfl
theorem ty54 : tyc Try.prog 54 = some (false, 1) := by kernel_rfl
theorem ze54 : zer Try.prog 54 = some ([Go.Value.tuple #[Go.Value.pointer none, Go.Value.bool false]]) := by kernel_rfl
theorem ty55 : tyc Try.prog 55 = some (true, 1) := by kernel_rfl
theorem ze55 : zer Try.prog 55 = some ([Go.Value.slice none 0 0]) := by kernel_rfl
theorem pl55 : plc Try.prog 55 = some ([(0, 1)]) := by kernel_rfl
theorem fl55_0 : fld Try.prog 55 0 = some (0, 1) := by kernel_rfl
theorem ty56 : tyc Try.prog 56 = some (true, 1) := by kernel_rfl
theorem ze56 : zer Try.prog 56 = some ([Go.Value.slice none 0 0]) := by kernel_rfl
theorem pl56 : plc Try.prog 56 = some ([(0, 1)]) := by kernel_rfl
theorem fl56_0 : fld Try.prog 56 0 = some (0, 1) := by kernel_rfl
theorem ty57 : tyc Try.prog 57 = some (true, 2) := by kernel_rfl
theorem ze57 : zer Try.prog 57 = some ([Go.Value.int Go.IntKind.i64 (0), Go.Value.slice none 0 0]) := by kernel_rfl
theorem pl57 : plc Try.prog 57 = some ([(0, 1), (1, 1)]) := by kernel_rfl
theorem fl57_0 : fld Try.prog 57 0 = some (0, 1) := by kernel_rfl
theorem fl57_1 : fld Try.prog 57 1 = some (1, 1) := by kernel_rfl
theorem ty58 : tyc Try.prog 58 = some (true, 2) := by kernel_rfl
theorem ze58 : zer Try.prog 58 = some ([Go.Value.int Go.IntKind.i64 (0), Go.Value.slice none 0 0]) := by kernel_rfl
theorem pl58 : plc Try.prog 58 = some ([(0, 1), (1, 1)]) := by kernel_rfl
theorem fl58_0 : fld Try.prog 58 0 = some (0, 1) := by kernel_rfl
theorem fl58_1 : fld Try.prog 58 1 = some (1, 1) := by kernel_rfl
theorem ty59 : tyc Try.prog 59 = some (false, 1) := by kernel_rfl
theorem ze59 : zer Try.prog 59 = some ([Go.Value.nilFunc]) := by kernel_rfl
theorem ty60 : tyc Try.prog 60 = some (false, 1) := by kernel_rfl
theorem ze60 : zer Try.prog 60 = some ([Go.Value.nilFunc]) := by kernel_rfl
theorem ty61 : tyc Try.prog 61 = some (false, 1) := by kernel_rfl
theorem ze61 : zer Try.prog 61 = some ([Go.Value.nilFunc]) := by kernel_rfl
theorem ty62 : tyc Try.prog 62 = some (false, 1) := by kernel_rfl
theorem ze62 : zer Try.prog 62 = some ([Go.Value.nilFunc]) := by kernel_rfl
theorem ty63 : tyc Try.prog 63 = some (false, 1) := by kernel_rfl
theorem ze63 : zer Try.prog 63 = some ([Go.Value.nilFunc]) := by kernel_rfl
theorem ty64 : tyc Try.prog 64 = some (false, 1) := by kernel_rfl
theorem ze64 : zer Try.prog 64 = some ([Go.Value.int Go.IntKind.i64 (0)]) := by kernel_rfl
theorem ty65 : tyc Try.prog 65 = some (true, 6) := by kernel_rfl
theorem ze65 : zer Try.prog 65 = some ([Go.Value.int Go.IntKind.u64 (0), Go.Value.int Go.IntKind.u64 (0), Go.Value.int Go.IntKind.i64 (0), Go.Value.slice none 0 0, Go.Value.slice none 0 0, Go.Value.slice none 0 0]) := by kernel_rfl
theorem pl65 : plc Try.prog 65 = some ([(0, 1), (1, 1), (2, 1), (3, 1), (4, 2)]) := by kernel_rfl
theorem fl65_0 : fld Try.prog 65 0 = some (0, 1) := by kernel_rfl
theorem fl65_1 : fld Try.prog 65 1 = some (1, 1) := by kernel_rfl
theorem fl65_2 : fld Try.prog 65 2 = some (2, 1) := by kernel_rfl
theorem fl65_3 : fld Try.prog 65 3 = some (3, 1) := by kernel_rfl
theorem fl65_4 : fld Try.prog 65 4 = some (4, 2) := by kernel_rfl
theorem ty66 : tyc Try.prog 66 = some (true, 6) := by kernel_rfl
theorem ze66 : zer Try.prog 66 = some ([Go.Value.int Go.IntKind.u64 (0), Go.Value.int Go.IntKind.u64 (0), Go.Value.int Go.IntKind.i64 (0), Go.Value.slice none 0 0, Go.Value.slice none 0 0, Go.Value.slice none 0 0]) := by kernel_rfl
theorem pl66 : plc Try.prog 66 = some ([(0, 1), (1, 1), (2, 1), (3, 1), (4, 2)]) := by kernel_rfl
theorem fl66_0 : fld Try.prog 66 0 = some (0, 1) := by kernel_rfl
theorem fl66_1 : fld Try.prog 66 1 = some (1, 1) := by kernel_rfl
theorem fl66_2 : fld Try.prog 66 2 = some (2, 1) := by kernel_rfl
theorem fl66_3 : fld Try.prog 66 3 = some (3, 1) := by kernel_rfl
theorem fl66_4 : fld Try.prog 66 4 = some (4, 2) := by kernel_rfl
theorem ty67 : tyc Try.prog 67 = some (false, 1) := by kernel_rfl
theorem ze67 : zer Try.prog 67 = some ([Go.Value.nilFunc]) := by kernel_rfl
theorem ty68 : tyc Try.prog 68 = some (false, 1) := by kernel_rfl
theorem ze68 : zer Try.prog 68 = some ([Go.Value.nilFunc]) := by kernel_rfl
theorem ty69 : tyc Try.prog 69 = some (false, 1) := by kernel_rfl
theorem ze69 : zer Try.prog 69 = some ([Go.Value.nilFunc]) := by kernel_rfl
theorem ty70 : tyc Try.prog 70 = some (false, 1) := by kernel_rfl
theorem ze70 : zer Try.prog 70 = some ([Go.Value.nilFunc]) := by kernel_rfl
theorem ty71 : tyc Try.prog 71 = some (false, 1) := by kernel_rfl
theorem ze71 : zer Try.prog 71 = some ([Go.Value.nilFunc]) := by kernel_rfl
theorem ty72 : tyc Try.prog 72 = some (false, 1) := by kernel_rfl
theorem ze72 : zer Try.prog 72 = some ([Go.Value.nilFunc]) := by kernel_rfl
theorem ty73 : tyc Try.prog 73 = some (false, 1) := by kernel_rfl
theorem ze73 : zer Try.prog 73 = some ([Go.Value.nilFunc]) := by kernel_rfl
theorem ty74 : tyc Try.prog 74 = some (false, 1) := by kernel_rfl
theorem ze74 : zer Try.prog 74 = some ([Go.Value.nilFunc]) := by kernel_rfl
theorem ty75 : tyc Try.prog 75 = some (false, 1) := by kernel_rfl
theorem ze75 : zer Try.prog 75 = some ([Go.Value.nilFunc]) := by kernel_rfl
theorem ty76 : tyc Try.prog 76 = some (false, 1) := by kernel_rfl
theorem ze76 : zer Try.prog 76 = some ([Go.Value.nilFunc]) := by kernel_rfl
theorem ty77 : tyc Try.prog 77 = some (false, 1) := by kernel_rfl
theorem ze77 : zer Try.prog 77 = some ([Go.Value.nilFunc]) := by kernel_rfl
theorem ty78 : tyc Try.prog 78 = some (false, 1) := by kernel_rfl
theorem ze78 : zer Try.prog 78 = some ([Go.Value.int Go.IntKind.u64 (0)]) := by kernel_rfl
theorem ty79 : tyc Try.prog 79 = some (false, 1) := by kernel_rfl
theorem ze79 : zer Try.prog 79 = some ([Go.Value.pointer none]) := by kernel_rfl
theorem ty80 : tyc Try.prog 80 = some (false, 1) := by kernel_rfl
theorem ze80 : zer Try.prog 80 = some ([Go.Value.nilFunc]) := by kernel_rfl
theorem ty81 : tyc Try.prog 81 = some (false, 1) := by kernel_rfl
theorem ze81 : zer Try.prog 81 = some ([Go.Value.nilFunc]) := by kernel_rfl
theorem ty82 : tyc Try.prog 82 = some (false, 1) := by kernel_rfl
theorem ze82 : zer Try.prog 82 = some ([Go.Value.nilFunc]) := by kernel_rfl
theorem ty83 : tyc Try.prog 83 = some (true, 4) := by kernel_rfl
theorem ze83 : zer Try.prog 83 = some ([Go.Value.pointer none, Go.Value.pointer none, Go.Value.pointer none, Go.Value.string { data := #[] }]) := by kernel_rfl
theorem pl83 : plc Try.prog 83 = some ([(0, 1), (1, 1), (2, 1), (3, 1)]) := by kernel_rfl
theorem fl83_0 : fld Try.prog 83 0 = some (0, 1) := by kernel_rfl
theorem fl83_1 : fld Try.prog 83 1 = some (1, 1) := by kernel_rfl
theorem fl83_2 : fld Try.prog 83 2 = some (2, 1) := by kernel_rfl
theorem fl83_3 : fld Try.prog 83 3 = some (3, 1) := by kernel_rfl
theorem ty84 : tyc Try.prog 84 = some (true, 4) := by kernel_rfl
theorem ze84 : zer Try.prog 84 = some ([Go.Value.pointer none, Go.Value.pointer none, Go.Value.pointer none, Go.Value.string { data := #[] }]) := by kernel_rfl
theorem pl84 : plc Try.prog 84 = some ([(0, 1), (1, 1), (2, 1), (3, 1)]) := by kernel_rfl
theorem fl84_0 : fld Try.prog 84 0 = some (0, 1) := by kernel_rfl
theorem fl84_1 : fld Try.prog 84 1 = some (1, 1) := by kernel_rfl
theorem fl84_2 : fld Try.prog 84 2 = some (2, 1) := by kernel_rfl
theorem fl84_3 : fld Try.prog 84 3 = some (3, 1) := by kernel_rfl
theorem ty85 : tyc Try.prog 85 = some (true, 0) := by kernel_rfl
theorem ze85 : zer Try.prog 85 = some ([]) := by kernel_rfl
theorem ar85 : arr Try.prog 85 = some (0, 16, 1) := by kernel_rfl
theorem ty86 : tyc Try.prog 86 = some (true, 0) := by kernel_rfl
theorem ze86 : zer Try.prog 86 = some ([]) := by kernel_rfl
theorem pl86 : plc Try.prog 86 = some ([(0, 0)]) := by kernel_rfl
theorem fl86_0 : fld Try.prog 86 0 = some (0, 0) := by kernel_rfl
theorem ty87 : tyc Try.prog 87 = some (true, 0) := by kernel_rfl
theorem ze87 : zer Try.prog 87 = some ([]) := by kernel_rfl
theorem pl87 : plc Try.prog 87 = some ([(0, 0)]) := by kernel_rfl
theorem fl87_0 : fld Try.prog 87 0 = some (0, 0) := by kernel_rfl
theorem ty88 : tyc Try.prog 88 = some (false, 1) := by kernel_rfl
theorem ze88 : zer Try.prog 88 = some ([Go.Value.nilFunc]) := by kernel_rfl
theorem ty89 : tyc Try.prog 89 = some (false, 1) := by kernel_rfl
theorem ze89 : zer Try.prog 89 = some ([Go.Value.int Go.IntKind.u32 (0)]) := by kernel_rfl
theorem ty90 : tyc Try.prog 90 = some (false, 1) := by kernel_rfl
theorem ze90 : zer Try.prog 90 = some ([Go.Value.int Go.IntKind.u8 (0)]) := by kernel_rfl
theorem ty91 : tyc Try.prog 91 = some (false, 1) := by kernel_rfl
theorem ze91 : zer Try.prog 91 = some ([Go.Value.int Go.IntKind.u8 (0)]) := by kernel_rfl
theorem ty92 : tyc Try.prog 92 = some (false, 1) := by kernel_rfl
theorem ze92 : zer Try.prog 92 = some ([Go.Value.nilFunc]) := by kernel_rfl
theorem ty93 : tyc Try.prog 93 = some (false, 1) := by kernel_rfl
theorem ze93 : zer Try.prog 93 = some ([Go.Value.pointer none]) := by kernel_rfl
theorem ty94 : tyc Try.prog 94 = some (false, 1) := by kernel_rfl
theorem ze94 : zer Try.prog 94 = some ([Go.Value.int Go.IntKind.i32 (0)]) := by kernel_rfl
theorem ty95 : tyc Try.prog 95 = some (false, 1) := by kernel_rfl
theorem ze95 : zer Try.prog 95 = some ([Go.Value.int Go.IntKind.i32 (0)]) := by kernel_rfl
theorem ty96 : tyc Try.prog 96 = some (true, 11) := by kernel_rfl
theorem ze96 : zer Try.prog 96 = some ([Go.Value.int Go.IntKind.u64 (0), Go.Value.int Go.IntKind.u64 (0), Go.Value.int Go.IntKind.u32 (0), Go.Value.int Go.IntKind.u8 (0), Go.Value.int Go.IntKind.u8 (0), Go.Value.int Go.IntKind.u8 (0), Go.Value.int Go.IntKind.u8 (0), Go.Value.nilFunc, Go.Value.pointer none, Go.Value.int Go.IntKind.i32 (0), Go.Value.int Go.IntKind.i32 (0)]) := by kernel_rfl
theorem pl96 : plc Try.prog 96 = some ([(0, 1), (1, 1), (2, 1), (3, 1), (4, 1), (5, 1), (6, 1), (7, 1), (8, 1), (9, 1), (10, 1)]) := by kernel_rfl
theorem fl96_0 : fld Try.prog 96 0 = some (0, 1) := by kernel_rfl
theorem fl96_1 : fld Try.prog 96 1 = some (1, 1) := by kernel_rfl
theorem fl96_2 : fld Try.prog 96 2 = some (2, 1) := by kernel_rfl
theorem fl96_3 : fld Try.prog 96 3 = some (3, 1) := by kernel_rfl
theorem fl96_4 : fld Try.prog 96 4 = some (4, 1) := by kernel_rfl
theorem fl96_5 : fld Try.prog 96 5 = some (5, 1) := by kernel_rfl
theorem fl96_6 : fld Try.prog 96 6 = some (6, 1) := by kernel_rfl
theorem fl96_7 : fld Try.prog 96 7 = some (7, 1) := by kernel_rfl
theorem fl96_8 : fld Try.prog 96 8 = some (8, 1) := by kernel_rfl
theorem fl96_9 : fld Try.prog 96 9 = some (9, 1) := by kernel_rfl
theorem fl96_10 : fld Try.prog 96 10 = some (10, 1) := by kernel_rfl
theorem ty97 : tyc Try.prog 97 = some (true, 11) := by kernel_rfl
theorem ze97 : zer Try.prog 97 = some ([Go.Value.int Go.IntKind.u64 (0), Go.Value.int Go.IntKind.u64 (0), Go.Value.int Go.IntKind.u32 (0), Go.Value.int Go.IntKind.u8 (0), Go.Value.int Go.IntKind.u8 (0), Go.Value.int Go.IntKind.u8 (0), Go.Value.int Go.IntKind.u8 (0), Go.Value.nilFunc, Go.Value.pointer none, Go.Value.int Go.IntKind.i32 (0), Go.Value.int Go.IntKind.i32 (0)]) := by kernel_rfl
theorem pl97 : plc Try.prog 97 = some ([(0, 1), (1, 1), (2, 1), (3, 1), (4, 1), (5, 1), (6, 1), (7, 1), (8, 1), (9, 1), (10, 1)]) := by kernel_rfl
theorem fl97_0 : fld Try.prog 97 0 = some (0, 1) := by kernel_rfl
theorem fl97_1 : fld Try.prog 97 1 = some (1, 1) := by kernel_rfl
theorem fl97_2 : fld Try.prog 97 2 = some (2, 1) := by kernel_rfl
theorem fl97_3 : fld Try.prog 97 3 = some (3, 1) := by kernel_rfl
theorem fl97_4 : fld Try.prog 97 4 = some (4, 1) := by kernel_rfl
theorem fl97_5 : fld Try.prog 97 5 = some (5, 1) := by kernel_rfl
theorem fl97_6 : fld Try.prog 97 6 = some (6, 1) := by kernel_rfl
theorem fl97_7 : fld Try.prog 97 7 = some (7, 1) := by kernel_rfl
theorem fl97_8 : fld Try.prog 97 8 = some (8, 1) := by kernel_rfl
theorem fl97_9 : fld Try.prog 97 9 = some (9, 1) := by kernel_rfl
theorem fl97_10 : fld Try.prog 97 10 = some (10, 1) := by kernel_rfl
theorem ty98 : tyc Try.prog 98 = some (false, 1) := by kernel_rfl
theorem ze98 : zer Try.prog 98 = some ([Go.Value.nilFunc]) := by kernel_rfl
theorem ty99 : tyc Try.prog 99 = some (false, 1) := by kernel_rfl
theorem ze99 : zer Try.prog 99 = some ([Go.Value.pointer none]) := by kernel_rfl
theorem ca2 : callable Try.prog 2 = true := by kernel_rfl
theorem ca3 : callable Try.prog 3 = true := by kernel_rfl
theorem ca4 : callable Try.prog 4 = true := by kernel_rfl
theorem ca5 : callable Try.prog 5 = true := by kernel_rfl
theorem ca6 : callable Try.prog 6 = true := by kernel_rfl
theorem ca7 : callable Try.prog 7 = true := by kernel_rfl
theorem ca8 : callable Try.prog 8 = true := by kernel_rfl
theorem ca9 : callable Try.prog 9 = true := by kernel_rfl
theorem ca10 : callable Try.prog 10 = true := by kernel_rfl
theorem ca11 : callable Try.prog 11 = true := by kernel_rfl
theorem ca12 : callable Try.prog 12 = true := by kernel_rfl
theorem ca13 : callable Try.prog 13 = true := by kernel_rfl
theorem ca14 : callable Try.prog 14 = true := by kernel_rfl
theorem ca15 : callable Try.prog 15 = true := by kernel_rfl
theorem ca16 : callable Try.prog 16 = true := by kernel_rfl
theorem ca17 : callable Try.prog 17 = true := by kernel_rfl
theorem ca18 : callable Try.prog 18 = true := by kernel_rfl
theorem ca19 : callable Try.prog 19 = true := by kernel_rfl
theorem ca20 : callable Try.prog 20 = true := by kernel_rfl
theorem ca21 : callable Try.prog 21 = true := by kernel_rfl
theorem ca22 : callable Try.prog 22 = true := by kernel_rfl
theorem ca23 : callable Try.prog 23 = true := by kernel_rfl
theorem ca24 : callable Try.prog 24 = true := by kernel_rfl
theorem ca25 : callable Try.prog 25 = true := by kernel_rfl
theorem ca26 : callable Try.prog 26 = true := by kernel_rfl
theorem ca27 : callable Try.prog 27 = true := by kernel_rfl
theorem ca28 : callable Try.prog 28 = true := by kernel_rfl
theorem ca29 : callable Try.prog 29 = true := by kernel_rfl
theorem ca30 : callable Try.prog 30 = true := by kernel_rfl
theorem ca31 : callable Try.prog 31 = true := by kernel_rfl
theorem ca32 : callable Try.prog 32 = true := by kernel_rfl
theorem ca33 : callable Try.prog 33 = true := by kernel_rfl
theorem ca34 : callable Try.prog 34 = true := by kernel_rfl
theorem ca35 : callable Try.prog 35 = true := by kernel_rfl
theorem ca36 : callable Try.prog 36 = true := by kernel_rfl
theorem ca37 : callable Try.prog 37 = true := by kernel_rfl
theorem ca38 : callable Try.prog 38 = true := by kernel_rfl
theorem ca39 : callable Try.prog 39 = true := by kernel_rfl
end Go.Lw
