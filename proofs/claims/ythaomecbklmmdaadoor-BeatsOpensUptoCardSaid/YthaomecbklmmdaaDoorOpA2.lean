/-
  Parts of the proof of BeatsOpensUptoCardSaid: the walk engine: Facts, Rules9, Pieces, Mixed, Maps, Open.
-/
import Derived.Test.YthaomecbklmmdaaDoorOpA1
import Derived.Test.YthaomecbklmmdaaDoorProg
import Derived.Maps.Keyed
import Derived.ProofKit
import Derived.OpenShut
import Derived.Carry

/-! Facts about the types and functions of this seat, printed by a program. -/
namespace Go.Lw
open Go.Proofs
theorem ty0 : tyc Tryd.prog 0 = some (false, 1) := by kernel_rfl
theorem ze0 : zer Tryd.prog 0 = some ([Go.Value.tuple #[]]) := by kernel_rfl
theorem ty1 : tyc Tryd.prog 1 = some (false, 1) := by kernel_rfl
theorem ze1 : zer Tryd.prog 1 = some ([Go.Value.nilFunc]) := by kernel_rfl
theorem ty2 : tyc Tryd.prog 2 = some (false, 1) := by kernel_rfl
theorem ze2 : zer Tryd.prog 2 = some ([Go.Value.int Go.IntKind.i64 (0)]) := by kernel_rfl
theorem ty3 : tyc Tryd.prog 3 = some (false, 1) := by kernel_rfl
theorem ze3 : zer Tryd.prog 3 = some ([Go.Value.int Go.IntKind.i64 (0)]) := by kernel_rfl
theorem ty4 : tyc Tryd.prog 4 = some (false, 1) := by kernel_rfl
theorem ze4 : zer Tryd.prog 4 = some ([Go.Value.bool false]) := by kernel_rfl
theorem ty5 : tyc Tryd.prog 5 = some (false, 1) := by kernel_rfl
theorem ze5 : zer Tryd.prog 5 = some ([Go.Value.int Go.IntKind.u8 (0)]) := by kernel_rfl
theorem ty6 : tyc Tryd.prog 6 = some (false, 1) := by kernel_rfl
theorem ze6 : zer Tryd.prog 6 = some ([Go.Value.int Go.IntKind.u8 (0)]) := by kernel_rfl
theorem ty7 : tyc Tryd.prog 7 = some (true, 4) := by kernel_rfl
theorem ze7 : zer Tryd.prog 7 = some ([Go.Value.int Go.IntKind.i64 (0), Go.Value.int Go.IntKind.i64 (0), Go.Value.bool false, Go.Value.int Go.IntKind.u8 (0)]) := by kernel_rfl
theorem pl7 : plc Tryd.prog 7 = some ([(0, 1), (1, 1), (2, 1), (3, 1)]) := by kernel_rfl
theorem fl7_0 : fld Tryd.prog 7 0 = some (0, 1) := by kernel_rfl
theorem fl7_1 : fld Tryd.prog 7 1 = some (1, 1) := by kernel_rfl
theorem fl7_2 : fld Tryd.prog 7 2 = some (2, 1) := by kernel_rfl
theorem fl7_3 : fld Tryd.prog 7 3 = some (3, 1) := by kernel_rfl
theorem ty8 : tyc Tryd.prog 8 = some (true, 4) := by kernel_rfl
theorem ze8 : zer Tryd.prog 8 = some ([Go.Value.int Go.IntKind.i64 (0), Go.Value.int Go.IntKind.i64 (0), Go.Value.bool false, Go.Value.int Go.IntKind.u8 (0)]) := by kernel_rfl
theorem pl8 : plc Tryd.prog 8 = some ([(0, 1), (1, 1), (2, 1), (3, 1)]) := by kernel_rfl
theorem fl8_0 : fld Tryd.prog 8 0 = some (0, 1) := by kernel_rfl
theorem fl8_1 : fld Tryd.prog 8 1 = some (1, 1) := by kernel_rfl
theorem fl8_2 : fld Tryd.prog 8 2 = some (2, 1) := by kernel_rfl
theorem fl8_3 : fld Tryd.prog 8 3 = some (3, 1) := by kernel_rfl
theorem ty9 : tyc Tryd.prog 9 = some (false, 1) := by kernel_rfl
theorem ze9 : zer Tryd.prog 9 = some ([Go.Value.string { data := #[] }]) := by kernel_rfl
theorem ty10 : tyc Tryd.prog 10 = some (false, 1) := by kernel_rfl
theorem ze10 : zer Tryd.prog 10 = some ([Go.Value.string { data := #[] }]) := by kernel_rfl
theorem ty11 : tyc Tryd.prog 11 = some (false, 1) := by kernel_rfl
theorem ze11 : zer Tryd.prog 11 = some ([Go.Value.string { data := #[] }]) := by kernel_rfl
theorem ty12 : tyc Tryd.prog 12 = some (false, 1) := by kernel_rfl
theorem ze12 : zer Tryd.prog 12 = some ([Go.Value.int Go.IntKind.u64 (0)]) := by kernel_rfl
theorem ty13 : tyc Tryd.prog 13 = some (true, 2) := by kernel_rfl
theorem ze13 : zer Tryd.prog 13 = some ([Go.Value.string { data := #[] }, Go.Value.int Go.IntKind.u64 (0)]) := by kernel_rfl
theorem pl13 : plc Tryd.prog 13 = some ([(0, 1), (1, 1)]) := by kernel_rfl
theorem fl13_0 : fld Tryd.prog 13 0 = some (0, 1) := by kernel_rfl
theorem fl13_1 : fld Tryd.prog 13 1 = some (1, 1) := by kernel_rfl
theorem ty14 : tyc Tryd.prog 14 = some (true, 2) := by kernel_rfl
theorem ze14 : zer Tryd.prog 14 = some ([Go.Value.string { data := #[] }, Go.Value.int Go.IntKind.u64 (0)]) := by kernel_rfl
theorem pl14 : plc Tryd.prog 14 = some ([(0, 1), (1, 1)]) := by kernel_rfl
theorem fl14_0 : fld Tryd.prog 14 0 = some (0, 1) := by kernel_rfl
theorem fl14_1 : fld Tryd.prog 14 1 = some (1, 1) := by kernel_rfl
theorem ty15 : tyc Tryd.prog 15 = some (false, 1) := by kernel_rfl
theorem ze15 : zer Tryd.prog 15 = some ([Go.Value.pointer none]) := by kernel_rfl
theorem ty16 : tyc Tryd.prog 16 = some (false, 1) := by kernel_rfl
theorem ze16 : zer Tryd.prog 16 = some ([Go.Value.pointer none]) := by kernel_rfl
theorem ty17 : tyc Tryd.prog 17 = some (false, 1) := by kernel_rfl
theorem ze17 : zer Tryd.prog 17 = some ([Go.Value.pointer none]) := by kernel_rfl
theorem ty18 : tyc Tryd.prog 18 = some (true, 1) := by kernel_rfl
theorem ze18 : zer Tryd.prog 18 = some ([Go.Value.pointer none]) := by kernel_rfl
theorem pl18 : plc Tryd.prog 18 = some ([(0, 1)]) := by kernel_rfl
theorem fl18_0 : fld Tryd.prog 18 0 = some (0, 1) := by kernel_rfl
theorem ty19 : tyc Tryd.prog 19 = some (true, 1) := by kernel_rfl
theorem ze19 : zer Tryd.prog 19 = some ([Go.Value.pointer none]) := by kernel_rfl
theorem pl19 : plc Tryd.prog 19 = some ([(0, 1)]) := by kernel_rfl
theorem fl19_0 : fld Tryd.prog 19 0 = some (0, 1) := by kernel_rfl
theorem ty20 : tyc Tryd.prog 20 = some (false, 1) := by kernel_rfl
theorem ze20 : zer Tryd.prog 20 = some ([Go.Value.nilIface]) := by kernel_rfl
theorem ty21 : tyc Tryd.prog 21 = some (false, 1) := by kernel_rfl
theorem ze21 : zer Tryd.prog 21 = some ([Go.Value.int Go.IntKind.i32 (0)]) := by kernel_rfl
theorem ty22 : tyc Tryd.prog 22 = some (false, 1) := by kernel_rfl
theorem sl22 : slc Tryd.prog 22 = some (5, 1, 1) := by kernel_rfl
theorem ze22 : zer Tryd.prog 22 = some ([Go.Value.slice none 0 0]) := by kernel_rfl
theorem ty23 : tyc Tryd.prog 23 = some (true, 4) := by kernel_rfl
theorem ze23 : zer Tryd.prog 23 = some ([Go.Value.int Go.IntKind.i64 (0), Go.Value.int Go.IntKind.i64 (0), Go.Value.int Go.IntKind.i64 (0), Go.Value.slice none 0 0]) := by kernel_rfl
theorem pl23 : plc Tryd.prog 23 = some ([(0, 1), (1, 1), (2, 1), (3, 1)]) := by kernel_rfl
theorem fl23_0 : fld Tryd.prog 23 0 = some (0, 1) := by kernel_rfl
theorem fl23_1 : fld Tryd.prog 23 1 = some (1, 1) := by kernel_rfl
theorem fl23_2 : fld Tryd.prog 23 2 = some (2, 1) := by kernel_rfl
theorem fl23_3 : fld Tryd.prog 23 3 = some (3, 1) := by kernel_rfl
theorem ty24 : tyc Tryd.prog 24 = some (true, 4) := by kernel_rfl
theorem ze24 : zer Tryd.prog 24 = some ([Go.Value.int Go.IntKind.i64 (0), Go.Value.int Go.IntKind.i64 (0), Go.Value.int Go.IntKind.i64 (0), Go.Value.slice none 0 0]) := by kernel_rfl
theorem pl24 : plc Tryd.prog 24 = some ([(0, 1), (1, 1), (2, 1), (3, 1)]) := by kernel_rfl
theorem fl24_0 : fld Tryd.prog 24 0 = some (0, 1) := by kernel_rfl
theorem fl24_1 : fld Tryd.prog 24 1 = some (1, 1) := by kernel_rfl
theorem fl24_2 : fld Tryd.prog 24 2 = some (2, 1) := by kernel_rfl
theorem fl24_3 : fld Tryd.prog 24 3 = some (3, 1) := by kernel_rfl
theorem ty25 : tyc Tryd.prog 25 = some (false, 1) := by kernel_rfl
theorem ze25 : zer Tryd.prog 25 = some ([Go.Value.nilFunc]) := by kernel_rfl
theorem ty26 : tyc Tryd.prog 26 = some (false, 1) := by kernel_rfl
theorem sl26 : slc Tryd.prog 26 = some (44, 15, 184) := by kernel_rfl
theorem ze26 : zer Tryd.prog 26 = some ([Go.Value.slice none 0 0]) := by kernel_rfl
theorem ty27 : tyc Tryd.prog 27 = some (false, 1) := by kernel_rfl
theorem ze27 : zer Tryd.prog 27 = some ([Go.Value.int Go.IntKind.i64 (0)]) := by kernel_rfl
theorem ty28 : tyc Tryd.prog 28 = some (false, 1) := by kernel_rfl
theorem ze28 : zer Tryd.prog 28 = some ([Go.Value.tuple #[Go.Value.slice none 0 0, Go.Value.int Go.IntKind.i64 (0)]]) := by kernel_rfl
theorem ty29 : tyc Tryd.prog 29 = some (false, 1) := by kernel_rfl
theorem ze29 : zer Tryd.prog 29 = some ([Go.Value.nilFunc]) := by kernel_rfl
theorem ty30 : tyc Tryd.prog 30 = some (false, 1) := by kernel_rfl
theorem sl30 : slc Tryd.prog 30 = some (51, 15, 184) := by kernel_rfl
theorem ze30 : zer Tryd.prog 30 = some ([Go.Value.slice none 0 0]) := by kernel_rfl
theorem ty31 : tyc Tryd.prog 31 = some (false, 1) := by kernel_rfl
theorem ze31 : zer Tryd.prog 31 = some ([Go.Value.tuple #[Go.Value.slice none 0 0, Go.Value.int Go.IntKind.i64 (0)]]) := by kernel_rfl
theorem ty32 : tyc Tryd.prog 32 = some (false, 1) := by kernel_rfl
theorem ze32 : zer Tryd.prog 32 = some ([Go.Value.nilFunc]) := by kernel_rfl
theorem ty33 : tyc Tryd.prog 33 = some (false, 1) := by kernel_rfl
theorem ze33 : zer Tryd.prog 33 = some ([Go.Value.nilFunc]) := by kernel_rfl
theorem ty34 : tyc Tryd.prog 34 = some (false, 1) := by kernel_rfl
theorem ze34 : zer Tryd.prog 34 = some ([Go.Value.nilFunc]) := by kernel_rfl
theorem ty35 : tyc Tryd.prog 35 = some (false, 1) := by kernel_rfl
theorem ze35 : zer Tryd.prog 35 = some ([Go.Value.int Go.IntKind.i64 (0)]) := by kernel_rfl
theorem ty36 : tyc Tryd.prog 36 = some (false, 1) := by kernel_rfl
theorem ze36 : zer Tryd.prog 36 = some ([Go.Value.int Go.IntKind.u64 (0)]) := by kernel_rfl
theorem ty37 : tyc Tryd.prog 37 = some (false, 1) := by kernel_rfl
theorem sl37 : slc Tryd.prog 37 = some (84, 6, 96) := by kernel_rfl
theorem ze37 : zer Tryd.prog 37 = some ([Go.Value.slice none 0 0]) := by kernel_rfl
theorem ty38 : tyc Tryd.prog 38 = some (false, 1) := by kernel_rfl
theorem sl38 : slc Tryd.prog 38 = some (3, 1, 8) := by kernel_rfl
theorem ze38 : zer Tryd.prog 38 = some ([Go.Value.slice none 0 0]) := by kernel_rfl
theorem ty39 : tyc Tryd.prog 39 = some (true, 2) := by kernel_rfl
theorem ze39 : zer Tryd.prog 39 = some ([Go.Value.slice none 0 0, Go.Value.slice none 0 0]) := by kernel_rfl
theorem pl39 : plc Tryd.prog 39 = some ([(0, 1), (1, 1)]) := by kernel_rfl
theorem fl39_0 : fld Tryd.prog 39 0 = some (0, 1) := by kernel_rfl
theorem fl39_1 : fld Tryd.prog 39 1 = some (1, 1) := by kernel_rfl
theorem ty40 : tyc Tryd.prog 40 = some (true, 2) := by kernel_rfl
theorem ze40 : zer Tryd.prog 40 = some ([Go.Value.slice none 0 0, Go.Value.slice none 0 0]) := by kernel_rfl
theorem pl40 : plc Tryd.prog 40 = some ([(0, 1), (1, 1)]) := by kernel_rfl
theorem fl40_0 : fld Tryd.prog 40 0 = some (0, 1) := by kernel_rfl
theorem fl40_1 : fld Tryd.prog 40 1 = some (1, 1) := by kernel_rfl
theorem ty41 : tyc Tryd.prog 41 = some (true, 14) := by kernel_rfl
theorem ze41 : zer Tryd.prog 41 = some ([Go.Value.int Go.IntKind.i64 (0), Go.Value.int Go.IntKind.i64 (0), Go.Value.int Go.IntKind.i64 (0), Go.Value.int Go.IntKind.u64 (0), Go.Value.int Go.IntKind.u64 (0), Go.Value.int Go.IntKind.u64 (0), Go.Value.slice none 0 0, Go.Value.int Go.IntKind.u64 (0), Go.Value.bool false, Go.Value.int Go.IntKind.u64 (0), Go.Value.slice none 0 0, Go.Value.slice none 0 0, Go.Value.slice none 0 0, Go.Value.bool false]) := by kernel_rfl
theorem pl41 : plc Tryd.prog 41 = some ([(0, 1), (1, 1), (2, 1), (3, 1), (4, 1), (5, 1), (6, 1), (7, 1), (8, 1), (9, 1), (10, 2), (12, 1), (13, 1)]) := by kernel_rfl
theorem fl41_0 : fld Tryd.prog 41 0 = some (0, 1) := by kernel_rfl
theorem fl41_1 : fld Tryd.prog 41 1 = some (1, 1) := by kernel_rfl
theorem fl41_2 : fld Tryd.prog 41 2 = some (2, 1) := by kernel_rfl
theorem fl41_3 : fld Tryd.prog 41 3 = some (3, 1) := by kernel_rfl
theorem fl41_4 : fld Tryd.prog 41 4 = some (4, 1) := by kernel_rfl
theorem fl41_5 : fld Tryd.prog 41 5 = some (5, 1) := by kernel_rfl
theorem fl41_6 : fld Tryd.prog 41 6 = some (6, 1) := by kernel_rfl
theorem fl41_7 : fld Tryd.prog 41 7 = some (7, 1) := by kernel_rfl
theorem fl41_8 : fld Tryd.prog 41 8 = some (8, 1) := by kernel_rfl
theorem fl41_9 : fld Tryd.prog 41 9 = some (9, 1) := by kernel_rfl
theorem fl41_10 : fld Tryd.prog 41 10 = some (10, 2) := by kernel_rfl
theorem fl41_11 : fld Tryd.prog 41 11 = some (12, 1) := by kernel_rfl
theorem fl41_12 : fld Tryd.prog 41 12 = some (13, 1) := by kernel_rfl
theorem ty42 : tyc Tryd.prog 42 = some (true, 14) := by kernel_rfl
theorem ze42 : zer Tryd.prog 42 = some ([Go.Value.int Go.IntKind.i64 (0), Go.Value.int Go.IntKind.i64 (0), Go.Value.int Go.IntKind.i64 (0), Go.Value.int Go.IntKind.u64 (0), Go.Value.int Go.IntKind.u64 (0), Go.Value.int Go.IntKind.u64 (0), Go.Value.slice none 0 0, Go.Value.int Go.IntKind.u64 (0), Go.Value.bool false, Go.Value.int Go.IntKind.u64 (0), Go.Value.slice none 0 0, Go.Value.slice none 0 0, Go.Value.slice none 0 0, Go.Value.bool false]) := by kernel_rfl
theorem pl42 : plc Tryd.prog 42 = some ([(0, 1), (1, 1), (2, 1), (3, 1), (4, 1), (5, 1), (6, 1), (7, 1), (8, 1), (9, 1), (10, 2), (12, 1), (13, 1)]) := by kernel_rfl
theorem fl42_0 : fld Tryd.prog 42 0 = some (0, 1) := by kernel_rfl
theorem fl42_1 : fld Tryd.prog 42 1 = some (1, 1) := by kernel_rfl
theorem fl42_2 : fld Tryd.prog 42 2 = some (2, 1) := by kernel_rfl
theorem fl42_3 : fld Tryd.prog 42 3 = some (3, 1) := by kernel_rfl
theorem fl42_4 : fld Tryd.prog 42 4 = some (4, 1) := by kernel_rfl
theorem fl42_5 : fld Tryd.prog 42 5 = some (5, 1) := by kernel_rfl
theorem fl42_6 : fld Tryd.prog 42 6 = some (6, 1) := by kernel_rfl
theorem fl42_7 : fld Tryd.prog 42 7 = some (7, 1) := by kernel_rfl
theorem fl42_8 : fld Tryd.prog 42 8 = some (8, 1) := by kernel_rfl
theorem fl42_9 : fld Tryd.prog 42 9 = some (9, 1) := by kernel_rfl
theorem fl42_10 : fld Tryd.prog 42 10 = some (10, 2) := by kernel_rfl
theorem fl42_11 : fld Tryd.prog 42 11 = some (12, 1) := by kernel_rfl
theorem fl42_12 : fld Tryd.prog 42 12 = some (13, 1) := by kernel_rfl
theorem ty43 : tyc Tryd.prog 43 = some (true, 15) := by kernel_rfl
theorem ze43 : zer Tryd.prog 43 = some ([Go.Value.int Go.IntKind.u64 (0), Go.Value.int Go.IntKind.i64 (0), Go.Value.int Go.IntKind.i64 (0), Go.Value.int Go.IntKind.i64 (0), Go.Value.int Go.IntKind.u64 (0), Go.Value.int Go.IntKind.u64 (0), Go.Value.int Go.IntKind.u64 (0), Go.Value.slice none 0 0, Go.Value.int Go.IntKind.u64 (0), Go.Value.bool false, Go.Value.int Go.IntKind.u64 (0), Go.Value.slice none 0 0, Go.Value.slice none 0 0, Go.Value.slice none 0 0, Go.Value.bool false]) := by kernel_rfl
theorem pl43 : plc Tryd.prog 43 = some ([(0, 1), (1, 14)]) := by kernel_rfl
theorem fl43_0 : fld Tryd.prog 43 0 = some (0, 1) := by kernel_rfl
theorem fl43_1 : fld Tryd.prog 43 1 = some (1, 14) := by kernel_rfl
theorem ty44 : tyc Tryd.prog 44 = some (true, 15) := by kernel_rfl
theorem ze44 : zer Tryd.prog 44 = some ([Go.Value.int Go.IntKind.u64 (0), Go.Value.int Go.IntKind.i64 (0), Go.Value.int Go.IntKind.i64 (0), Go.Value.int Go.IntKind.i64 (0), Go.Value.int Go.IntKind.u64 (0), Go.Value.int Go.IntKind.u64 (0), Go.Value.int Go.IntKind.u64 (0), Go.Value.slice none 0 0, Go.Value.int Go.IntKind.u64 (0), Go.Value.bool false, Go.Value.int Go.IntKind.u64 (0), Go.Value.slice none 0 0, Go.Value.slice none 0 0, Go.Value.slice none 0 0, Go.Value.bool false]) := by kernel_rfl
theorem pl44 : plc Tryd.prog 44 = some ([(0, 1), (1, 14)]) := by kernel_rfl
theorem fl44_0 : fld Tryd.prog 44 0 = some (0, 1) := by kernel_rfl
theorem fl44_1 : fld Tryd.prog 44 1 = some (1, 14) := by kernel_rfl
theorem ty45 : tyc Tryd.prog 45 = some (false, 1) := by kernel_rfl
theorem ze45 : zer Tryd.prog 45 = some ([Go.Value.nilFunc]) := by kernel_rfl
theorem ty46 : tyc Tryd.prog 46 = some (false, 1) := by kernel_rfl
theorem sl46 : slc Tryd.prog 46 = some (24, 4, 48) := by kernel_rfl
theorem ze46 : zer Tryd.prog 46 = some ([Go.Value.slice none 0 0]) := by kernel_rfl
theorem ty47 : tyc Tryd.prog 47 = some (false, 1) := by kernel_rfl
theorem ze47 : zer Tryd.prog 47 = some ([Go.Value.tuple #[Go.Value.slice none 0 0, Go.Value.int Go.IntKind.i64 (0)]]) := by kernel_rfl
theorem ty48 : tyc Tryd.prog 48 = some (false, 1) := by kernel_rfl
theorem ze48 : zer Tryd.prog 48 = some ([Go.Value.nilFunc]) := by kernel_rfl
theorem ty49 : tyc Tryd.prog 49 = some (false, 1) := by kernel_rfl
theorem ze49 : zer Tryd.prog 49 = some ([Go.Value.nilFunc]) := by kernel_rfl
theorem ty50 : tyc Tryd.prog 50 = some (false, 1) := by kernel_rfl
theorem ze50 : zer Tryd.prog 50 = some ([Go.Value.nilFunc]) := by kernel_rfl
theorem ty51 : tyc Tryd.prog 51 = some (true, 15) := by kernel_rfl
theorem ze51 : zer Tryd.prog 51 = some ([Go.Value.int Go.IntKind.u64 (0), Go.Value.int Go.IntKind.i64 (0), Go.Value.int Go.IntKind.i64 (0), Go.Value.int Go.IntKind.i64 (0), Go.Value.int Go.IntKind.u64 (0), Go.Value.int Go.IntKind.u64 (0), Go.Value.int Go.IntKind.u64 (0), Go.Value.slice none 0 0, Go.Value.int Go.IntKind.u64 (0), Go.Value.bool false, Go.Value.int Go.IntKind.u64 (0), Go.Value.slice none 0 0, Go.Value.slice none 0 0, Go.Value.slice none 0 0, Go.Value.bool false]) := by kernel_rfl
theorem pl51 : plc Tryd.prog 51 = some ([(0, 1), (1, 14)]) := by kernel_rfl
theorem fl51_0 : fld Tryd.prog 51 0 = some (0, 1) := by kernel_rfl
theorem fl51_1 : fld Tryd.prog 51 1 = some (1, 14) := by kernel_rfl
theorem ty52 : tyc Tryd.prog 52 = some (false, 1) := by kernel_rfl
theorem ze52 : zer Tryd.prog 52 = some ([Go.Value.nilFunc]) := by kernel_rfl
theorem ty53 : tyc Tryd.prog 53 = some (false, 1) := by kernel_rfl
theorem ze53 : zer Tryd.prog 53 = some ([Go.Value.nilFunc]) := by kernel_rfl
theorem ty54 : tyc Tryd.prog 54 = some (false, 1) := by kernel_rfl
theorem ze54 : zer Tryd.prog 54 = some ([Go.Value.nilFunc]) := by kernel_rfl
theorem ty55 : tyc Tryd.prog 55 = some (false, 1) := by kernel_rfl
theorem ze55 : zer Tryd.prog 55 = some ([Go.Value.nilFunc]) := by kernel_rfl
theorem ty56 : tyc Tryd.prog 56 = some (false, 1) := by kernel_rfl
theorem ze56 : zer Tryd.prog 56 = some ([Go.Value.pointer none]) := by kernel_rfl
theorem ty57 : tyc Tryd.prog 57 = some (false, 1) := by kernel_rfl
theorem ze57 : zer Tryd.prog 57 = some ([Go.Value.nilFunc]) := by kernel_rfl
theorem ty58 : tyc Tryd.prog 58 = some (false, 1) := by kernel_rfl
theorem ze58 : zer Tryd.prog 58 = some ([Go.Value.nilFunc]) := by kernel_rfl
theorem ty59 : tyc Tryd.prog 59 = some (false, 1) := by kernel_rfl
theorem ze59 : zer Tryd.prog 59 = some ([Go.Value.nilFunc]) := by kernel_rfl
theorem ty60 : tyc Tryd.prog 60 = some (false, 1) := by kernel_rfl
theorem ze60 : zer Tryd.prog 60 = some ([Go.Value.tuple #[Go.Value.int Go.IntKind.i64 (0), Go.Value.int Go.IntKind.i64 (0)]]) := by kernel_rfl
theorem ty61 : tyc Tryd.prog 61 = some (false, 1) := by kernel_rfl
theorem ze61 : zer Tryd.prog 61 = some ([Go.Value.nilFunc]) := by kernel_rfl
theorem ty62 : tyc Tryd.prog 62 = some (false, 1) := by kernel_rfl
theorem ze62 : zer Tryd.prog 62 = some ([Go.Value.nilFunc]) := by kernel_rfl
theorem ty63 : tyc Tryd.prog 63 = some (false, 1) := by kernel_rfl
theorem ze63 : zer Tryd.prog 63 = some ([Go.Value.pointer none]) := by kernel_rfl
theorem ty64 : tyc Tryd.prog 64 = some (true, 4) := by kernel_rfl
theorem ze64 : zer Tryd.prog 64 = some ([Go.Value.slice none 0 0, Go.Value.int Go.IntKind.i64 (0), Go.Value.int Go.IntKind.i64 (0), Go.Value.int Go.IntKind.i64 (0)]) := by kernel_rfl
theorem pl64 : plc Tryd.prog 64 = some ([(0, 1), (1, 1), (2, 1), (3, 1)]) := by kernel_rfl
theorem fl64_0 : fld Tryd.prog 64 0 = some (0, 1) := by kernel_rfl
theorem fl64_1 : fld Tryd.prog 64 1 = some (1, 1) := by kernel_rfl
theorem fl64_2 : fld Tryd.prog 64 2 = some (2, 1) := by kernel_rfl
theorem fl64_3 : fld Tryd.prog 64 3 = some (3, 1) := by kernel_rfl
theorem ty65 : tyc Tryd.prog 65 = some (true, 4) := by kernel_rfl
theorem ze65 : zer Tryd.prog 65 = some ([Go.Value.slice none 0 0, Go.Value.int Go.IntKind.i64 (0), Go.Value.int Go.IntKind.i64 (0), Go.Value.int Go.IntKind.i64 (0)]) := by kernel_rfl
theorem pl65 : plc Tryd.prog 65 = some ([(0, 1), (1, 1), (2, 1), (3, 1)]) := by kernel_rfl
theorem fl65_0 : fld Tryd.prog 65 0 = some (0, 1) := by kernel_rfl
theorem fl65_1 : fld Tryd.prog 65 1 = some (1, 1) := by kernel_rfl
theorem fl65_2 : fld Tryd.prog 65 2 = some (2, 1) := by kernel_rfl
theorem fl65_3 : fld Tryd.prog 65 3 = some (3, 1) := by kernel_rfl
theorem ty66 : tyc Tryd.prog 66 = some (false, 1) := by kernel_rfl
theorem ze66 : zer Tryd.prog 66 = some ([Go.Value.nilFunc]) := by kernel_rfl
theorem ty67 : tyc Tryd.prog 67 = some (false, 1) := by kernel_rfl
theorem ze67 : zer Tryd.prog 67 = some ([Go.Value.nilFunc]) := by kernel_rfl
theorem ty68 : tyc Tryd.prog 68 = some (false, 1) := by kernel_rfl
theorem ze68 : zer Tryd.prog 68 = some ([Go.Value.nilFunc]) := by kernel_rfl
theorem ty69 : tyc Tryd.prog 69 = some (false, 1) := by kernel_rfl
theorem ze69 : zer Tryd.prog 69 = some ([Go.Value.map none]) := by kernel_rfl
theorem ty70 : tyc Tryd.prog 70 = some (false, 1) := by kernel_rfl
theorem ze70 : zer Tryd.prog 70 = some ([Go.Value.map none]) := by kernel_rfl
theorem ty71 : tyc Tryd.prog 71 = some (false, 1) := by kernel_rfl
theorem ze71 : zer Tryd.prog 71 = some ([Go.Value.pointer none]) := by kernel_rfl
theorem ty72 : tyc Tryd.prog 72 = some (false, 1) := by kernel_rfl
theorem ze72 : zer Tryd.prog 72 = some ([Go.Value.tuple #[Go.Value.pointer none, Go.Value.bool false]]) := by kernel_rfl
theorem ty73 : tyc Tryd.prog 73 = some (true, 1) := by kernel_rfl
theorem ze73 : zer Tryd.prog 73 = some ([Go.Value.slice none 0 0]) := by kernel_rfl
theorem pl73 : plc Tryd.prog 73 = some ([(0, 1)]) := by kernel_rfl
theorem fl73_0 : fld Tryd.prog 73 0 = some (0, 1) := by kernel_rfl
theorem ty74 : tyc Tryd.prog 74 = some (true, 1) := by kernel_rfl
theorem ze74 : zer Tryd.prog 74 = some ([Go.Value.slice none 0 0]) := by kernel_rfl
theorem pl74 : plc Tryd.prog 74 = some ([(0, 1)]) := by kernel_rfl
theorem fl74_0 : fld Tryd.prog 74 0 = some (0, 1) := by kernel_rfl
theorem ty75 : tyc Tryd.prog 75 = some (true, 2) := by kernel_rfl
theorem ze75 : zer Tryd.prog 75 = some ([Go.Value.int Go.IntKind.i64 (0), Go.Value.slice none 0 0]) := by kernel_rfl
theorem pl75 : plc Tryd.prog 75 = some ([(0, 1), (1, 1)]) := by kernel_rfl
theorem fl75_0 : fld Tryd.prog 75 0 = some (0, 1) := by kernel_rfl
theorem fl75_1 : fld Tryd.prog 75 1 = some (1, 1) := by kernel_rfl
theorem ty76 : tyc Tryd.prog 76 = some (true, 2) := by kernel_rfl
theorem ze76 : zer Tryd.prog 76 = some ([Go.Value.int Go.IntKind.i64 (0), Go.Value.slice none 0 0]) := by kernel_rfl
theorem pl76 : plc Tryd.prog 76 = some ([(0, 1), (1, 1)]) := by kernel_rfl
theorem fl76_0 : fld Tryd.prog 76 0 = some (0, 1) := by kernel_rfl
theorem fl76_1 : fld Tryd.prog 76 1 = some (1, 1) := by kernel_rfl
theorem ty77 : tyc Tryd.prog 77 = some (false, 1) := by kernel_rfl
theorem ze77 : zer Tryd.prog 77 = some ([Go.Value.nilFunc]) := by kernel_rfl
theorem ty78 : tyc Tryd.prog 78 = some (false, 1) := by kernel_rfl
theorem ze78 : zer Tryd.prog 78 = some ([Go.Value.nilFunc]) := by kernel_rfl
theorem ty79 : tyc Tryd.prog 79 = some (false, 1) := by kernel_rfl
theorem ze79 : zer Tryd.prog 79 = some ([Go.Value.nilFunc]) := by kernel_rfl
theorem ty80 : tyc Tryd.prog 80 = some (false, 1) := by kernel_rfl
theorem ze80 : zer Tryd.prog 80 = some ([Go.Value.pointer none]) := by kernel_rfl
theorem ty81 : tyc Tryd.prog 81 = some (false, 1) := by kernel_rfl
theorem ze81 : zer Tryd.prog 81 = some ([Go.Value.nilFunc]) := by kernel_rfl
theorem ty82 : tyc Tryd.prog 82 = some (false, 1) := by kernel_rfl
theorem ze82 : zer Tryd.prog 82 = some ([Go.Value.int Go.IntKind.i64 (0)]) := by kernel_rfl
theorem ty83 : tyc Tryd.prog 83 = some (true, 6) := by kernel_rfl
theorem ze83 : zer Tryd.prog 83 = some ([Go.Value.int Go.IntKind.u64 (0), Go.Value.int Go.IntKind.u64 (0), Go.Value.int Go.IntKind.i64 (0), Go.Value.slice none 0 0, Go.Value.slice none 0 0, Go.Value.slice none 0 0]) := by kernel_rfl
theorem pl83 : plc Tryd.prog 83 = some ([(0, 1), (1, 1), (2, 1), (3, 1), (4, 2)]) := by kernel_rfl
theorem fl83_0 : fld Tryd.prog 83 0 = some (0, 1) := by kernel_rfl
theorem fl83_1 : fld Tryd.prog 83 1 = some (1, 1) := by kernel_rfl
theorem fl83_2 : fld Tryd.prog 83 2 = some (2, 1) := by kernel_rfl
theorem fl83_3 : fld Tryd.prog 83 3 = some (3, 1) := by kernel_rfl
theorem fl83_4 : fld Tryd.prog 83 4 = some (4, 2) := by kernel_rfl
theorem ty84 : tyc Tryd.prog 84 = some (true, 6) := by kernel_rfl
theorem ze84 : zer Tryd.prog 84 = some ([Go.Value.int Go.IntKind.u64 (0), Go.Value.int Go.IntKind.u64 (0), Go.Value.int Go.IntKind.i64 (0), Go.Value.slice none 0 0, Go.Value.slice none 0 0, Go.Value.slice none 0 0]) := by kernel_rfl
theorem pl84 : plc Tryd.prog 84 = some ([(0, 1), (1, 1), (2, 1), (3, 1), (4, 2)]) := by kernel_rfl
theorem fl84_0 : fld Tryd.prog 84 0 = some (0, 1) := by kernel_rfl
theorem fl84_1 : fld Tryd.prog 84 1 = some (1, 1) := by kernel_rfl
theorem fl84_2 : fld Tryd.prog 84 2 = some (2, 1) := by kernel_rfl
theorem fl84_3 : fld Tryd.prog 84 3 = some (3, 1) := by kernel_rfl
theorem fl84_4 : fld Tryd.prog 84 4 = some (4, 2) := by kernel_rfl
theorem ty85 : tyc Tryd.prog 85 = some (false, 1) := by kernel_rfl
theorem ze85 : zer Tryd.prog 85 = some ([Go.Value.nilFunc]) := by kernel_rfl
theorem ty86 : tyc Tryd.prog 86 = some (false, 1) := by kernel_rfl
theorem ze86 : zer Tryd.prog 86 = some ([Go.Value.nilFunc]) := by kernel_rfl
theorem ty87 : tyc Tryd.prog 87 = some (false, 1) := by kernel_rfl
theorem ze87 : zer Tryd.prog 87 = some ([Go.Value.nilFunc]) := by kernel_rfl
theorem ty88 : tyc Tryd.prog 88 = some (false, 1) := by kernel_rfl
theorem ze88 : zer Tryd.prog 88 = some ([Go.Value.nilFunc]) := by kernel_rfl
theorem ty89 : tyc Tryd.prog 89 = some (false, 1) := by kernel_rfl
theorem ze89 : zer Tryd.prog 89 = some ([Go.Value.nilIface]) := by kernel_rfl
theorem ty90 : tyc Tryd.prog 90 = some (false, 1) := by kernel_rfl
theorem ze90 : zer Tryd.prog 90 = some ([Go.Value.nilIface]) := by kernel_rfl
theorem ty91 : tyc Tryd.prog 91 = some (true, 3) := by kernel_rfl
theorem ze91 : zer Tryd.prog 91 = some ([Go.Value.slice none 0 0, Go.Value.int Go.IntKind.i64 (0), Go.Value.nilIface]) := by kernel_rfl
theorem pl91 : plc Tryd.prog 91 = some ([(0, 1), (1, 1), (2, 1)]) := by kernel_rfl
theorem fl91_0 : fld Tryd.prog 91 0 = some (0, 1) := by kernel_rfl
theorem fl91_1 : fld Tryd.prog 91 1 = some (1, 1) := by kernel_rfl
theorem fl91_2 : fld Tryd.prog 91 2 = some (2, 1) := by kernel_rfl
theorem ty92 : tyc Tryd.prog 92 = some (true, 3) := by kernel_rfl
theorem ze92 : zer Tryd.prog 92 = some ([Go.Value.slice none 0 0, Go.Value.int Go.IntKind.i64 (0), Go.Value.nilIface]) := by kernel_rfl
theorem pl92 : plc Tryd.prog 92 = some ([(0, 1), (1, 1), (2, 1)]) := by kernel_rfl
theorem fl92_0 : fld Tryd.prog 92 0 = some (0, 1) := by kernel_rfl
theorem fl92_1 : fld Tryd.prog 92 1 = some (1, 1) := by kernel_rfl
theorem fl92_2 : fld Tryd.prog 92 2 = some (2, 1) := by kernel_rfl
theorem ty93 : tyc Tryd.prog 93 = some (false, 1) := by kernel_rfl
theorem ze93 : zer Tryd.prog 93 = some ([Go.Value.nilFunc]) := by kernel_rfl
theorem ty94 : tyc Tryd.prog 94 = some (false, 1) := by kernel_rfl
theorem ze94 : zer Tryd.prog 94 = some ([Go.Value.pointer none]) := by kernel_rfl
theorem ty95 : tyc Tryd.prog 95 = some (false, 1) := by kernel_rfl
theorem ze95 : zer Tryd.prog 95 = some ([Go.Value.nilFunc]) := by kernel_rfl
theorem ty96 : tyc Tryd.prog 96 = some (false, 1) := by kernel_rfl
theorem ze96 : zer Tryd.prog 96 = some ([Go.Value.pointer none]) := by kernel_rfl
theorem ty97 : tyc Tryd.prog 97 = some (false, 1) := by kernel_rfl
theorem ze97 : zer Tryd.prog 97 = some ([Go.Value.pointer none]) := by kernel_rfl
theorem ty98 : tyc Tryd.prog 98 = some (true, 2) := by kernel_rfl
theorem ze98 : zer Tryd.prog 98 = some ([Go.Value.int Go.IntKind.i64 (0), Go.Value.nilIface]) := by kernel_rfl
theorem pl98 : plc Tryd.prog 98 = some ([(0, 1), (1, 1)]) := by kernel_rfl
theorem fl98_0 : fld Tryd.prog 98 0 = some (0, 1) := by kernel_rfl
theorem fl98_1 : fld Tryd.prog 98 1 = some (1, 1) := by kernel_rfl
theorem ty99 : tyc Tryd.prog 99 = some (true, 2) := by kernel_rfl
theorem ze99 : zer Tryd.prog 99 = some ([Go.Value.int Go.IntKind.i64 (0), Go.Value.nilIface]) := by kernel_rfl
theorem pl99 : plc Tryd.prog 99 = some ([(0, 1), (1, 1)]) := by kernel_rfl
theorem fl99_0 : fld Tryd.prog 99 0 = some (0, 1) := by kernel_rfl
theorem fl99_1 : fld Tryd.prog 99 1 = some (1, 1) := by kernel_rfl
theorem ty100 : tyc Tryd.prog 100 = some (false, 1) := by kernel_rfl
theorem ze100 : zer Tryd.prog 100 = some ([Go.Value.nilFunc]) := by kernel_rfl
theorem ty101 : tyc Tryd.prog 101 = some (false, 1) := by kernel_rfl
theorem ze101 : zer Tryd.prog 101 = some ([Go.Value.nilFunc]) := by kernel_rfl
theorem ty102 : tyc Tryd.prog 102 = some (false, 1) := by kernel_rfl
theorem ze102 : zer Tryd.prog 102 = some ([Go.Value.nilFunc]) := by kernel_rfl
theorem ty103 : tyc Tryd.prog 103 = some (false, 1) := by kernel_rfl
theorem ze103 : zer Tryd.prog 103 = some ([Go.Value.nilFunc]) := by kernel_rfl
theorem ty104 : tyc Tryd.prog 104 = some (false, 1) := by kernel_rfl
theorem ze104 : zer Tryd.prog 104 = some ([Go.Value.nilFunc]) := by kernel_rfl
theorem ty105 : tyc Tryd.prog 105 = some (false, 1) := by kernel_rfl
theorem ze105 : zer Tryd.prog 105 = some ([Go.Value.nilFunc]) := by kernel_rfl
theorem ty106 : tyc Tryd.prog 106 = some (false, 1) := by kernel_rfl
theorem ze106 : zer Tryd.prog 106 = some ([Go.Value.nilFunc]) := by kernel_rfl
theorem ty107 : tyc Tryd.prog 107 = some (false, 1) := by kernel_rfl
theorem ze107 : zer Tryd.prog 107 = some ([Go.Value.nilFunc]) := by kernel_rfl
theorem ty108 : tyc Tryd.prog 108 = some (false, 1) := by kernel_rfl
theorem ze108 : zer Tryd.prog 108 = some ([Go.Value.nilFunc]) := by kernel_rfl
theorem ty109 : tyc Tryd.prog 109 = some (false, 1) := by kernel_rfl
theorem ze109 : zer Tryd.prog 109 = some ([Go.Value.int Go.IntKind.u64 (0)]) := by kernel_rfl
theorem ty110 : tyc Tryd.prog 110 = some (false, 1) := by kernel_rfl
theorem ze110 : zer Tryd.prog 110 = some ([Go.Value.nilFunc]) := by kernel_rfl
theorem ty111 : tyc Tryd.prog 111 = some (false, 1) := by kernel_rfl
theorem ze111 : zer Tryd.prog 111 = some ([Go.Value.nilFunc]) := by kernel_rfl
theorem ty112 : tyc Tryd.prog 112 = some (false, 1) := by kernel_rfl
theorem ze112 : zer Tryd.prog 112 = some ([Go.Value.nilFunc]) := by kernel_rfl
theorem ty113 : tyc Tryd.prog 113 = some (false, 1) := by kernel_rfl
theorem ze113 : zer Tryd.prog 113 = some ([Go.Value.pointer none]) := by kernel_rfl
theorem ty114 : tyc Tryd.prog 114 = some (false, 1) := by kernel_rfl
theorem ze114 : zer Tryd.prog 114 = some ([Go.Value.int Go.IntKind.u64 (0)]) := by kernel_rfl
theorem ty115 : tyc Tryd.prog 115 = some (true, 3) := by kernel_rfl
theorem ze115 : zer Tryd.prog 115 = some ([Go.Value.pointer none, Go.Value.pointer none, Go.Value.int Go.IntKind.u64 (0)]) := by kernel_rfl
theorem pl115 : plc Tryd.prog 115 = some ([(0, 1), (1, 1), (2, 1)]) := by kernel_rfl
theorem fl115_0 : fld Tryd.prog 115 0 = some (0, 1) := by kernel_rfl
theorem fl115_1 : fld Tryd.prog 115 1 = some (1, 1) := by kernel_rfl
theorem fl115_2 : fld Tryd.prog 115 2 = some (2, 1) := by kernel_rfl
theorem ty116 : tyc Tryd.prog 116 = some (true, 3) := by kernel_rfl
theorem ze116 : zer Tryd.prog 116 = some ([Go.Value.pointer none, Go.Value.pointer none, Go.Value.int Go.IntKind.u64 (0)]) := by kernel_rfl
theorem pl116 : plc Tryd.prog 116 = some ([(0, 1), (1, 1), (2, 1)]) := by kernel_rfl
theorem fl116_0 : fld Tryd.prog 116 0 = some (0, 1) := by kernel_rfl
theorem fl116_1 : fld Tryd.prog 116 1 = some (1, 1) := by kernel_rfl
theorem fl116_2 : fld Tryd.prog 116 2 = some (2, 1) := by kernel_rfl
theorem ty117 : tyc Tryd.prog 117 = some (false, 1) := by kernel_rfl
theorem ze117 : zer Tryd.prog 117 = some ([Go.Value.nilFunc]) := by kernel_rfl
theorem ty118 : tyc Tryd.prog 118 = some (false, 1) := by kernel_rfl
theorem ze118 : zer Tryd.prog 118 = some ([Go.Value.nilIface]) := by kernel_rfl
theorem ty119 : tyc Tryd.prog 119 = some (false, 1) := by kernel_rfl
theorem ze119 : zer Tryd.prog 119 = some ([Go.Value.nilIface]) := by kernel_rfl
theorem ty120 : tyc Tryd.prog 120 = some (false, 1) := by kernel_rfl
theorem ze120 : zer Tryd.prog 120 = some ([Go.Value.nilFunc]) := by kernel_rfl
theorem ty121 : tyc Tryd.prog 121 = some (false, 1) := by kernel_rfl
theorem ze121 : zer Tryd.prog 121 = some ([Go.Value.int Go.IntKind.u8 (0)]) := by kernel_rfl
theorem ty122 : tyc Tryd.prog 122 = some (false, 1) := by kernel_rfl
theorem ze122 : zer Tryd.prog 122 = some ([Go.Value.nilFunc]) := by kernel_rfl
theorem ty123 : tyc Tryd.prog 123 = some (false, 1) := by kernel_rfl
theorem ze123 : zer Tryd.prog 123 = some ([Go.Value.nilFunc]) := by kernel_rfl
theorem ty124 : tyc Tryd.prog 124 = some (false, 1) := by kernel_rfl
theorem ze124 : zer Tryd.prog 124 = some ([Go.Value.nilFunc]) := by kernel_rfl
theorem ty125 : tyc Tryd.prog 125 = some (false, 1) := by kernel_rfl
theorem ze125 : zer Tryd.prog 125 = some ([Go.Value.nilFunc]) := by kernel_rfl
theorem ty126 : tyc Tryd.prog 126 = some (false, 1) := by kernel_rfl
theorem ze126 : zer Tryd.prog 126 = some ([Go.Value.nilFunc]) := by kernel_rfl
theorem ty127 : tyc Tryd.prog 127 = some (false, 1) := by kernel_rfl
theorem ze127 : zer Tryd.prog 127 = some ([Go.Value.pointer none]) := by kernel_rfl
theorem ty128 : tyc Tryd.prog 128 = some (false, 1) := by kernel_rfl
theorem ze128 : zer Tryd.prog 128 = some ([Go.Value.nilFunc]) := by kernel_rfl
theorem ty129 : tyc Tryd.prog 129 = some (false, 1) := by kernel_rfl
theorem ze129 : zer Tryd.prog 129 = some ([Go.Value.nilFunc]) := by kernel_rfl
theorem ty130 : tyc Tryd.prog 130 = some (false, 1) := by kernel_rfl
theorem ze130 : zer Tryd.prog 130 = some ([Go.Value.nilFunc]) := by kernel_rfl
theorem ty131 : tyc Tryd.prog 131 = some (true, 1) := by kernel_rfl
theorem ze131 : zer Tryd.prog 131 = some ([Go.Value.pointer none]) := by kernel_rfl
theorem pl131 : plc Tryd.prog 131 = some ([(0, 1)]) := by kernel_rfl
theorem fl131_0 : fld Tryd.prog 131 0 = some (0, 1) := by kernel_rfl
theorem ty132 : tyc Tryd.prog 132 = some (true, 1) := by kernel_rfl
theorem ze132 : zer Tryd.prog 132 = some ([Go.Value.pointer none]) := by kernel_rfl
theorem pl132 : plc Tryd.prog 132 = some ([(0, 1)]) := by kernel_rfl
theorem fl132_0 : fld Tryd.prog 132 0 = some (0, 1) := by kernel_rfl
theorem ty133 : tyc Tryd.prog 133 = some (false, 1) := by kernel_rfl
theorem ze133 : zer Tryd.prog 133 = some ([Go.Value.pointer none]) := by kernel_rfl
theorem ty134 : tyc Tryd.prog 134 = some (false, 1) := by kernel_rfl
theorem ze134 : zer Tryd.prog 134 = some ([Go.Value.nilFunc]) := by kernel_rfl
theorem ty135 : tyc Tryd.prog 135 = some (false, 1) := by kernel_rfl
theorem ze135 : zer Tryd.prog 135 = some ([Go.Value.nilFunc]) := by kernel_rfl
theorem ty136 : tyc Tryd.prog 136 = some (false, 1) := by kernel_rfl
theorem ze136 : zer Tryd.prog 136 = some ([Go.Value.nilFunc]) := by kernel_rfl
theorem ty137 : tyc Tryd.prog 137 = some (false, 1) := by kernel_rfl
theorem ze137 : zer Tryd.prog 137 = some ([Go.Value.nilIface]) := by kernel_rfl
theorem ty138 : tyc Tryd.prog 138 = some (false, 1) := by kernel_rfl
theorem ze138 : zer Tryd.prog 138 = some ([Go.Value.tuple #[Go.Value.nilIface, Go.Value.bool false]]) := by kernel_rfl
theorem ty139 : tyc Tryd.prog 139 = some (false, 1) := by kernel_rfl
theorem ze139 : zer Tryd.prog 139 = some ([Go.Value.nilFunc]) := by kernel_rfl
theorem ty140 : tyc Tryd.prog 140 = some (false, 1) := by kernel_rfl
theorem ze140 : zer Tryd.prog 140 = some ([Go.Value.nilIface]) := by kernel_rfl
theorem ty141 : tyc Tryd.prog 141 = some (false, 1) := by kernel_rfl
theorem ze141 : zer Tryd.prog 141 = some ([Go.Value.nilFunc]) := by kernel_rfl
theorem ty142 : tyc Tryd.prog 142 = some (false, 1) := by kernel_rfl
theorem ze142 : zer Tryd.prog 142 = some ([Go.Value.nilIface]) := by kernel_rfl
theorem ty143 : tyc Tryd.prog 143 = some (false, 1) := by kernel_rfl
theorem sl143 : slc Tryd.prog 143 = some (90, 1, 16) := by kernel_rfl
theorem ze143 : zer Tryd.prog 143 = some ([Go.Value.slice none 0 0]) := by kernel_rfl
theorem ty144 : tyc Tryd.prog 144 = some (false, 1) := by kernel_rfl
theorem ze144 : zer Tryd.prog 144 = some ([Go.Value.nilFunc]) := by kernel_rfl
theorem ty145 : tyc Tryd.prog 145 = some (false, 1) := by kernel_rfl
theorem ze145 : zer Tryd.prog 145 = some ([Go.Value.nilFunc]) := by kernel_rfl
theorem ty146 : tyc Tryd.prog 146 = some (true, 4) := by kernel_rfl
theorem ze146 : zer Tryd.prog 146 = some ([Go.Value.pointer none, Go.Value.pointer none, Go.Value.pointer none, Go.Value.string { data := #[] }]) := by kernel_rfl
theorem pl146 : plc Tryd.prog 146 = some ([(0, 1), (1, 1), (2, 1), (3, 1)]) := by kernel_rfl
theorem fl146_0 : fld Tryd.prog 146 0 = some (0, 1) := by kernel_rfl
theorem fl146_1 : fld Tryd.prog 146 1 = some (1, 1) := by kernel_rfl
theorem fl146_2 : fld Tryd.prog 146 2 = some (2, 1) := by kernel_rfl
theorem fl146_3 : fld Tryd.prog 146 3 = some (3, 1) := by kernel_rfl
theorem ty147 : tyc Tryd.prog 147 = some (true, 4) := by kernel_rfl
theorem ze147 : zer Tryd.prog 147 = some ([Go.Value.pointer none, Go.Value.pointer none, Go.Value.pointer none, Go.Value.string { data := #[] }]) := by kernel_rfl
theorem pl147 : plc Tryd.prog 147 = some ([(0, 1), (1, 1), (2, 1), (3, 1)]) := by kernel_rfl
theorem fl147_0 : fld Tryd.prog 147 0 = some (0, 1) := by kernel_rfl
theorem fl147_1 : fld Tryd.prog 147 1 = some (1, 1) := by kernel_rfl
theorem fl147_2 : fld Tryd.prog 147 2 = some (2, 1) := by kernel_rfl
theorem fl147_3 : fld Tryd.prog 147 3 = some (3, 1) := by kernel_rfl
theorem ty148 : tyc Tryd.prog 148 = some (true, 0) := by kernel_rfl
theorem ze148 : zer Tryd.prog 148 = some ([]) := by kernel_rfl
theorem ar148 : arr Tryd.prog 148 = some (0, 16, 1) := by kernel_rfl
theorem ty149 : tyc Tryd.prog 149 = some (true, 0) := by kernel_rfl
theorem ze149 : zer Tryd.prog 149 = some ([]) := by kernel_rfl
theorem pl149 : plc Tryd.prog 149 = some ([(0, 0)]) := by kernel_rfl
theorem fl149_0 : fld Tryd.prog 149 0 = some (0, 0) := by kernel_rfl
theorem ty150 : tyc Tryd.prog 150 = some (true, 0) := by kernel_rfl
theorem ze150 : zer Tryd.prog 150 = some ([]) := by kernel_rfl
theorem pl150 : plc Tryd.prog 150 = some ([(0, 0)]) := by kernel_rfl
theorem fl150_0 : fld Tryd.prog 150 0 = some (0, 0) := by kernel_rfl
theorem ty151 : tyc Tryd.prog 151 = some (false, 1) := by kernel_rfl
theorem ze151 : zer Tryd.prog 151 = some ([Go.Value.nilFunc]) := by kernel_rfl
theorem ty152 : tyc Tryd.prog 152 = some (false, 1) := by kernel_rfl
theorem ze152 : zer Tryd.prog 152 = some ([Go.Value.int Go.IntKind.u32 (0)]) := by kernel_rfl
theorem ty153 : tyc Tryd.prog 153 = some (false, 1) := by kernel_rfl
theorem ze153 : zer Tryd.prog 153 = some ([Go.Value.int Go.IntKind.u8 (0)]) := by kernel_rfl
theorem ty154 : tyc Tryd.prog 154 = some (false, 1) := by kernel_rfl
theorem ze154 : zer Tryd.prog 154 = some ([Go.Value.nilFunc]) := by kernel_rfl
theorem ty155 : tyc Tryd.prog 155 = some (false, 1) := by kernel_rfl
theorem ze155 : zer Tryd.prog 155 = some ([Go.Value.pointer none]) := by kernel_rfl
theorem ty156 : tyc Tryd.prog 156 = some (false, 1) := by kernel_rfl
theorem ze156 : zer Tryd.prog 156 = some ([Go.Value.int Go.IntKind.i32 (0)]) := by kernel_rfl
theorem ty157 : tyc Tryd.prog 157 = some (false, 1) := by kernel_rfl
theorem ze157 : zer Tryd.prog 157 = some ([Go.Value.int Go.IntKind.i32 (0)]) := by kernel_rfl
theorem ty158 : tyc Tryd.prog 158 = some (true, 11) := by kernel_rfl
theorem ze158 : zer Tryd.prog 158 = some ([Go.Value.int Go.IntKind.u64 (0), Go.Value.int Go.IntKind.u64 (0), Go.Value.int Go.IntKind.u32 (0), Go.Value.int Go.IntKind.u8 (0), Go.Value.int Go.IntKind.u8 (0), Go.Value.int Go.IntKind.u8 (0), Go.Value.int Go.IntKind.u8 (0), Go.Value.nilFunc, Go.Value.pointer none, Go.Value.int Go.IntKind.i32 (0), Go.Value.int Go.IntKind.i32 (0)]) := by kernel_rfl
theorem pl158 : plc Tryd.prog 158 = some ([(0, 1), (1, 1), (2, 1), (3, 1), (4, 1), (5, 1), (6, 1), (7, 1), (8, 1), (9, 1), (10, 1)]) := by kernel_rfl
theorem fl158_0 : fld Tryd.prog 158 0 = some (0, 1) := by kernel_rfl
theorem fl158_1 : fld Tryd.prog 158 1 = some (1, 1) := by kernel_rfl
theorem fl158_2 : fld Tryd.prog 158 2 = some (2, 1) := by kernel_rfl
theorem fl158_3 : fld Tryd.prog 158 3 = some (3, 1) := by kernel_rfl
theorem fl158_4 : fld Tryd.prog 158 4 = some (4, 1) := by kernel_rfl
theorem fl158_5 : fld Tryd.prog 158 5 = some (5, 1) := by kernel_rfl
theorem fl158_6 : fld Tryd.prog 158 6 = some (6, 1) := by kernel_rfl
theorem fl158_7 : fld Tryd.prog 158 7 = some (7, 1) := by kernel_rfl
theorem fl158_8 : fld Tryd.prog 158 8 = some (8, 1) := by kernel_rfl
theorem fl158_9 : fld Tryd.prog 158 9 = some (9, 1) := by kernel_rfl
theorem fl158_10 : fld Tryd.prog 158 10 = some (10, 1) := by kernel_rfl
theorem ty159 : tyc Tryd.prog 159 = some (true, 11) := by kernel_rfl
theorem ze159 : zer Tryd.prog 159 = some ([Go.Value.int Go.IntKind.u64 (0), Go.Value.int Go.IntKind.u64 (0), Go.Value.int Go.IntKind.u32 (0), Go.Value.int Go.IntKind.u8 (0), Go.Value.int Go.IntKind.u8 (0), Go.Value.int Go.IntKind.u8 (0), Go.Value.int Go.IntKind.u8 (0), Go.Value.nilFunc, Go.Value.pointer none, Go.Value.int Go.IntKind.i32 (0), Go.Value.int Go.IntKind.i32 (0)]) := by kernel_rfl
theorem pl159 : plc Tryd.prog 159 = some ([(0, 1), (1, 1), (2, 1), (3, 1), (4, 1), (5, 1), (6, 1), (7, 1), (8, 1), (9, 1), (10, 1)]) := by kernel_rfl
theorem fl159_0 : fld Tryd.prog 159 0 = some (0, 1) := by kernel_rfl
theorem fl159_1 : fld Tryd.prog 159 1 = some (1, 1) := by kernel_rfl
theorem fl159_2 : fld Tryd.prog 159 2 = some (2, 1) := by kernel_rfl
theorem fl159_3 : fld Tryd.prog 159 3 = some (3, 1) := by kernel_rfl
theorem fl159_4 : fld Tryd.prog 159 4 = some (4, 1) := by kernel_rfl
theorem fl159_5 : fld Tryd.prog 159 5 = some (5, 1) := by kernel_rfl
theorem fl159_6 : fld Tryd.prog 159 6 = some (6, 1) := by kernel_rfl
theorem fl159_7 : fld Tryd.prog 159 7 = some (7, 1) := by kernel_rfl
theorem fl159_8 : fld Tryd.prog 159 8 = some (8, 1) := by kernel_rfl
theorem fl159_9 : fld Tryd.prog 159 9 = some (9, 1) := by kernel_rfl
theorem fl159_10 : fld Tryd.prog 159 10 = some (10, 1) := by kernel_rfl
theorem ty160 : tyc Tryd.prog 160 = some (false, 1) := by kernel_rfl
theorem ze160 : zer Tryd.prog 160 = some ([Go.Value.nilFunc]) := by kernel_rfl
theorem ty161 : tyc Tryd.prog 161 = some (false, 1) := by kernel_rfl
theorem ze161 : zer Tryd.prog 161 = some ([Go.Value.nilFunc]) := by kernel_rfl
theorem ty162 : tyc Tryd.prog 162 = some (false, 1) := by kernel_rfl
theorem ze162 : zer Tryd.prog 162 = some ([Go.Value.nilFunc]) := by kernel_rfl
theorem ty163 : tyc Tryd.prog 163 = some (false, 1) := by kernel_rfl
theorem ze163 : zer Tryd.prog 163 = some ([Go.Value.nilFunc]) := by kernel_rfl
theorem ty164 : tyc Tryd.prog 164 = some (true, 2) := by kernel_rfl
theorem ze164 : zer Tryd.prog 164 = some ([Go.Value.string { data := #[] }, Go.Value.int Go.IntKind.u8 (0)]) := by kernel_rfl
theorem pl164 : plc Tryd.prog 164 = some ([(0, 1), (1, 1)]) := by kernel_rfl
theorem fl164_0 : fld Tryd.prog 164 0 = some (0, 1) := by kernel_rfl
theorem fl164_1 : fld Tryd.prog 164 1 = some (1, 1) := by kernel_rfl
theorem ty165 : tyc Tryd.prog 165 = some (true, 2) := by kernel_rfl
theorem ze165 : zer Tryd.prog 165 = some ([Go.Value.string { data := #[] }, Go.Value.int Go.IntKind.u8 (0)]) := by kernel_rfl
theorem pl165 : plc Tryd.prog 165 = some ([(0, 1), (1, 1)]) := by kernel_rfl
theorem fl165_0 : fld Tryd.prog 165 0 = some (0, 1) := by kernel_rfl
theorem fl165_1 : fld Tryd.prog 165 1 = some (1, 1) := by kernel_rfl
theorem ty166 : tyc Tryd.prog 166 = some (false, 1) := by kernel_rfl
theorem ze166 : zer Tryd.prog 166 = some ([Go.Value.pointer none]) := by kernel_rfl
theorem ty167 : tyc Tryd.prog 167 = some (false, 1) := by kernel_rfl
theorem ze167 : zer Tryd.prog 167 = some ([Go.Value.nilFunc]) := by kernel_rfl
theorem ty168 : tyc Tryd.prog 168 = some (false, 1) := by kernel_rfl
theorem ze168 : zer Tryd.prog 168 = some ([Go.Value.int Go.IntKind.u16 (0)]) := by kernel_rfl
theorem ty169 : tyc Tryd.prog 169 = some (true, 5) := by kernel_rfl
theorem ze169 : zer Tryd.prog 169 = some ([Go.Value.int Go.IntKind.i32 (0), Go.Value.int Go.IntKind.u16 (0), Go.Value.int Go.IntKind.u16 (0), Go.Value.int Go.IntKind.u32 (0), Go.Value.int Go.IntKind.u32 (0)]) := by kernel_rfl
theorem pl169 : plc Tryd.prog 169 = some ([(0, 1), (1, 1), (2, 1), (3, 1), (4, 1)]) := by kernel_rfl
theorem fl169_0 : fld Tryd.prog 169 0 = some (0, 1) := by kernel_rfl
theorem fl169_1 : fld Tryd.prog 169 1 = some (1, 1) := by kernel_rfl
theorem fl169_2 : fld Tryd.prog 169 2 = some (2, 1) := by kernel_rfl
theorem fl169_3 : fld Tryd.prog 169 3 = some (3, 1) := by kernel_rfl
theorem fl169_4 : fld Tryd.prog 169 4 = some (4, 1) := by kernel_rfl
theorem ty170 : tyc Tryd.prog 170 = some (true, 5) := by kernel_rfl
theorem ze170 : zer Tryd.prog 170 = some ([Go.Value.int Go.IntKind.i32 (0), Go.Value.int Go.IntKind.u16 (0), Go.Value.int Go.IntKind.u16 (0), Go.Value.int Go.IntKind.u32 (0), Go.Value.int Go.IntKind.u32 (0)]) := by kernel_rfl
theorem pl170 : plc Tryd.prog 170 = some ([(0, 1), (1, 1), (2, 1), (3, 1), (4, 1)]) := by kernel_rfl
theorem fl170_0 : fld Tryd.prog 170 0 = some (0, 1) := by kernel_rfl
theorem fl170_1 : fld Tryd.prog 170 1 = some (1, 1) := by kernel_rfl
theorem fl170_2 : fld Tryd.prog 170 2 = some (2, 1) := by kernel_rfl
theorem fl170_3 : fld Tryd.prog 170 3 = some (3, 1) := by kernel_rfl
theorem fl170_4 : fld Tryd.prog 170 4 = some (4, 1) := by kernel_rfl
theorem ty171 : tyc Tryd.prog 171 = some (false, 1) := by kernel_rfl
theorem sl171 : slc Tryd.prog 171 = some (174, 4, 16) := by kernel_rfl
theorem ze171 : zer Tryd.prog 171 = some ([Go.Value.slice none 0 0]) := by kernel_rfl
theorem ty172 : tyc Tryd.prog 172 = some (false, 1) := by kernel_rfl
theorem ze172 : zer Tryd.prog 172 = some ([Go.Value.int Go.IntKind.i32 (0)]) := by kernel_rfl
theorem ty173 : tyc Tryd.prog 173 = some (true, 4) := by kernel_rfl
theorem ze173 : zer Tryd.prog 173 = some ([Go.Value.int Go.IntKind.i32 (0), Go.Value.int Go.IntKind.i32 (0), Go.Value.int Go.IntKind.i32 (0), Go.Value.int Go.IntKind.i32 (0)]) := by kernel_rfl
theorem pl173 : plc Tryd.prog 173 = some ([(0, 1), (1, 1), (2, 1), (3, 1)]) := by kernel_rfl
theorem fl173_0 : fld Tryd.prog 173 0 = some (0, 1) := by kernel_rfl
theorem fl173_1 : fld Tryd.prog 173 1 = some (1, 1) := by kernel_rfl
theorem fl173_2 : fld Tryd.prog 173 2 = some (2, 1) := by kernel_rfl
theorem fl173_3 : fld Tryd.prog 173 3 = some (3, 1) := by kernel_rfl
theorem ty174 : tyc Tryd.prog 174 = some (true, 4) := by kernel_rfl
theorem ze174 : zer Tryd.prog 174 = some ([Go.Value.int Go.IntKind.i32 (0), Go.Value.int Go.IntKind.i32 (0), Go.Value.int Go.IntKind.i32 (0), Go.Value.int Go.IntKind.i32 (0)]) := by kernel_rfl
theorem pl174 : plc Tryd.prog 174 = some ([(0, 1), (1, 1), (2, 1), (3, 1)]) := by kernel_rfl
theorem fl174_0 : fld Tryd.prog 174 0 = some (0, 1) := by kernel_rfl
theorem fl174_1 : fld Tryd.prog 174 1 = some (1, 1) := by kernel_rfl
theorem fl174_2 : fld Tryd.prog 174 2 = some (2, 1) := by kernel_rfl
theorem fl174_3 : fld Tryd.prog 174 3 = some (3, 1) := by kernel_rfl
theorem ty175 : tyc Tryd.prog 175 = some (false, 1) := by kernel_rfl
theorem ze175 : zer Tryd.prog 175 = some ([Go.Value.pointer none]) := by kernel_rfl
theorem ca2 : callable Tryd.prog 2 = true := by kernel_rfl
theorem ca3 : callable Tryd.prog 3 = true := by kernel_rfl
theorem ca4 : callable Tryd.prog 4 = true := by kernel_rfl
theorem ca5 : callable Tryd.prog 5 = true := by kernel_rfl
theorem ca6 : callable Tryd.prog 6 = true := by kernel_rfl
theorem ca7 : callable Tryd.prog 7 = true := by kernel_rfl
theorem ca8 : callable Tryd.prog 8 = true := by kernel_rfl
theorem ca9 : callable Tryd.prog 9 = true := by kernel_rfl
theorem ca10 : callable Tryd.prog 10 = true := by kernel_rfl
theorem ca11 : callable Tryd.prog 11 = true := by kernel_rfl
theorem ca12 : callable Tryd.prog 12 = true := by kernel_rfl
theorem ca13 : callable Tryd.prog 13 = true := by kernel_rfl
theorem ca14 : callable Tryd.prog 14 = true := by kernel_rfl
theorem ca15 : callable Tryd.prog 15 = true := by kernel_rfl
theorem ca16 : callable Tryd.prog 16 = true := by kernel_rfl
theorem ca17 : callable Tryd.prog 17 = true := by kernel_rfl
theorem ca18 : callable Tryd.prog 18 = true := by kernel_rfl
theorem ca19 : callable Tryd.prog 19 = true := by kernel_rfl
theorem ca20 : callable Tryd.prog 20 = true := by kernel_rfl
theorem ca21 : callable Tryd.prog 21 = true := by kernel_rfl
theorem ca22 : callable Tryd.prog 22 = true := by kernel_rfl
theorem ca23 : callable Tryd.prog 23 = true := by kernel_rfl
theorem ca24 : callable Tryd.prog 24 = true := by kernel_rfl
theorem ca25 : callable Tryd.prog 25 = true := by kernel_rfl
theorem ca26 : callable Tryd.prog 26 = true := by kernel_rfl
theorem ca27 : callable Tryd.prog 27 = true := by kernel_rfl
theorem ca28 : callable Tryd.prog 28 = true := by kernel_rfl
theorem ca29 : callable Tryd.prog 29 = true := by kernel_rfl
theorem ca30 : callable Tryd.prog 30 = true := by kernel_rfl
theorem ca31 : callable Tryd.prog 31 = true := by kernel_rfl
theorem ca32 : callable Tryd.prog 32 = true := by kernel_rfl
theorem ca33 : callable Tryd.prog 33 = true := by kernel_rfl
theorem ca34 : callable Tryd.prog 34 = true := by kernel_rfl
theorem ca35 : callable Tryd.prog 35 = true := by kernel_rfl
theorem ca36 : callable Tryd.prog 36 = true := by kernel_rfl
theorem ca37 : callable Tryd.prog 37 = true := by kernel_rfl
theorem ca38 : callable Tryd.prog 38 = true := by kernel_rfl
theorem ca39 : callable Tryd.prog 39 = true := by kernel_rfl
theorem ca40 : callable Tryd.prog 40 = true := by kernel_rfl
theorem ca41 : callable Tryd.prog 41 = true := by kernel_rfl
theorem ca42 : callable Tryd.prog 42 = true := by kernel_rfl
theorem ca43 : callable Tryd.prog 43 = true := by kernel_rfl
theorem ca44 : callable Tryd.prog 44 = true := by kernel_rfl
theorem ca45 : callable Tryd.prog 45 = true := by kernel_rfl
theorem ca46 : callable Tryd.prog 46 = true := by kernel_rfl
theorem ca47 : callable Tryd.prog 47 = true := by kernel_rfl
theorem ca48 : callable Tryd.prog 48 = true := by kernel_rfl
theorem ca49 : callable Tryd.prog 49 = true := by kernel_rfl
theorem ca50 : callable Tryd.prog 50 = true := by kernel_rfl
theorem ca51 : callable Tryd.prog 51 = true := by kernel_rfl
theorem ca52 : callable Tryd.prog 52 = true := by kernel_rfl
theorem ca53 : callable Tryd.prog 53 = true := by kernel_rfl
theorem ca54 : callable Tryd.prog 54 = true := by kernel_rfl
theorem ca55 : callable Tryd.prog 55 = true := by kernel_rfl
theorem ca56 : callable Tryd.prog 56 = true := by kernel_rfl
theorem ca57 : callable Tryd.prog 57 = true := by kernel_rfl
theorem ca58 : callable Tryd.prog 58 = true := by kernel_rfl
theorem ca59 : callable Tryd.prog 59 = true := by kernel_rfl
theorem ca60 : callable Tryd.prog 60 = true := by kernel_rfl
theorem ca61 : callable Tryd.prog 61 = true := by kernel_rfl
theorem ca62 : callable Tryd.prog 62 = true := by kernel_rfl
theorem ca63 : callable Tryd.prog 63 = true := by kernel_rfl
theorem ca64 : callable Tryd.prog 64 = true := by kernel_rfl
theorem ca65 : callable Tryd.prog 65 = true := by kernel_rfl
theorem ca69 : callable Tryd.prog 69 = true := by kernel_rfl
theorem ca70 : callable Tryd.prog 70 = true := by kernel_rfl
theorem ca71 : callable Tryd.prog 71 = true := by kernel_rfl
theorem ca72 : callable Tryd.prog 72 = true := by kernel_rfl
theorem ca73 : callable Tryd.prog 73 = true := by kernel_rfl
theorem ca74 : callable Tryd.prog 74 = true := by kernel_rfl
theorem ca75 : callable Tryd.prog 75 = true := by kernel_rfl
theorem ca99 : callable Tryd.prog 99 = true := by kernel_rfl
theorem ca119 : callable Tryd.prog 119 = true := by kernel_rfl
end Go.Lw

/-
  THE WALK ENGINE, part 13: function values: closures made, called by value.
-/
namespace Go.Lw
section
variable {P : Program} {n : Nat} {ops : Array Oper} {Q : Exit → Act → World → Prop} {S : World → Prop} {rest : List (Bool × Oper)} {E : Env} {w : World} {o : Oper} {d : Nat} {v : Value}
variable {s A : Res} {os : List Res} {x y : Operand} {T : Bool}

/-- func literals: what they capture -/
theorem RL.makeF {fn : Fn} {cap : Array Operand} {l : List Value} (hg : wants ops E o = some true) (hd : o.dst = some d) (hb : Nat.blt d n = true) (ho : o.op = .makeFunc fn #[] cap) (hl : evs E cap.toList = some l)
    (h : RL P n ops Q S rest ((d, .func fn #[] l.toArray) :: E) w) : RL P n ops Q S ((T, o) :: rest) E w := by
  refine RL.val hg hd hb (fun w ac ha => ?_) h
  have hargs : (cap.map ac.eval) = l.toArray := by
    rw [← Array.toArray_toList (xs := cap), List.map_toArray, ha.evs hl]
  unfold execOp
  simp only [ho, hargs]
  simp [Instr.makeFunc]

/-- A call of a function value. -/
theorem RL.callF {f : FuncId} {args : Array Operand} {ats : Array TypeId} {l : List Value} {cap : Array Value} {R : Ending → World → Prop} (hg : wants ops E o = some true) (hd : o.dst = some d) (hb : Nat.blt d n = true)
    (ho : o.op = .call { callee := .value x, args := args, argTypes := ats }) (hx : ev E x = some (.func (.func f) #[] cap)) (hl : evs E args.toList = some l) (hc : callable P f = true) (hct : Calls P f (l.toArray ++ cap) w R)
    (h : ∀ e w', R e w' → ∃ v, e = .returned v ∧ S w' ∧ RL P n ops Q S rest ((d, v) :: E) w') : RL P n ops Q S ((false, o) :: rest) E w := fun _ ac ha => by
  have hargs : (args.map ac.eval) = l.toArray := by
    rw [← Array.toArray_toList (xs := args), List.map_toArray, ha.evs hl]
  have hev : ac.eval x = .func (.func f) #[] cap := ha.ev hx
  simp only [RA, ha.wants hg, if_true]
  unfold Oper.wp
  have hrun : (execOp ac.eval o).run P w = .ok (.enter f (l.toArray ++ cap)) w := by
    unfold execOp
    simp only [ho]
    simp only [resolve, hargs, hev, Deferred.ofValue, invoke, Sem.run_bind, Sem.run_pure, Result.andThen_ok, Array.empty_append, run_callFunc hc]
  rw [hrun]
  simp only [Oper.upon]
  refine hct.mono fun e w' hp => ?_
  obtain ⟨v, rfl, h5, h6⟩ := h e w' hp
  simp only [hd]
  exact ⟨h5, h6 h5 _ (ha.put hb v)⟩
/-- s[:h], h up to the capacity -/
theorem RL.reslice {α : Type} {R : Res → List Value → α → Prop} {t e : TypeId} {sz by_ c m : Nat} {k : IntKind} {a : Option Addr} {xs : List α} {h : Int} (hg : wants ops E o = some true) (hd : o.dst = some d) (hb : Nat.blt d n = true)
    (ho : o.op = .slice t x none (some y) none) (ht : slc P t = some (e, sz, by_)) (hx : ev E x = some (.slice a m c)) (hy : ev E y = some (.int k h))
    (hI : Imm R sz s a c xs) (h0 : 0 ≤ h) (h2 : h ≤ xs.length)
    (hK : ∀ a', Imm R sz s a' c xs → RL P n ops Q S rest ((d, .slice a' h.toNat c) :: E) w) : RL P n ops Q S ((T, o) :: rest) E w := by
  obtain ⟨hI', hlen⟩ := hI.part (l := 0) (h := xs.length) (by omega) (Nat.le_refl _)
  rw [Nat.sub_zero, List.drop_zero, List.take_length] at hI'
  refine RL.val hg hd hb (fun w ac ha => ?_) (hK _ hI')
  obtain ⟨hu, inf, hi', rfl, _⟩ := slc_spec ht
  have hsz : ∀ w : World, (sizeOf e).run P w = .ok inf.size w := fun w => by simp [sizeOf, typeInfo, hi']
  have hcap := hI.1
  have hh' : ∀ k (y : Nat) code, h ≤ y → (Instr.sliceBound (.int k h) y code).run P w = .ok h.toNat w := fun k y code hy => run_sliceBound w k h y code (by omega) hy
  unfold execOp
  simp only [ho, ha.ev hx]
  simp [Instr.sliceAt, Instr.slice, Instr.sliceBounds, run_underlying hu, hsz, ha.ev hy, hh' k c .sliceAcap (by omega)]
end
end Go.Lw

/-
  THE WALK ENGINE, part 14: pieces: order, dropping, sharing; sources of append.
-/
namespace Go.Lw
theorem Good.has {w : World} {s r : Res} {os : List Res} (h : Good w s os) (hr : r = s ∨ r ∈ os) : In r w := by
  rcases hr with rfl | hr
  · exact h.sh
  · exact h.mem hr
theorem Src.row {P : Program} {w : World} {α : Type} {R : Res → List Value → α → Prop} {t e : TypeId} {sz by_ : Nat} {a : Option Addr} {c : Nat} {ys : List α} {r s : Res} (ht : slc P t = some (e, sz, by_)) (h : ys = [] ∨ ∃ ad, a = some ad ∧ Row R sz r s ad ys) (hin : In r w) :
    ∃ news, Src P w t sz (.slice a ys.length c) ys.length news ∧ Chunks R sz s news ys := by
  rcases h with rfl | ⟨ad, rfl, cs, hh, hc⟩
  · exact ⟨[], .slice ht (by simp) (.inl rfl) hin, rfl⟩
  · exact ⟨cs, .slice ht hc.length (.inr ⟨ad, rfl, hh⟩) hin, hc⟩
theorem Good.dropNext {w : World} {s A B : Res} {os : List Res} (h : Good w s (A :: B :: os)) : Good w s (A :: os) :=
  (h.perm (List.Perm.swap _ _ _)).drop
theorem Good.swap {w : World} {s A B : Res} {os : List Res} (h : Good w s (A :: B :: os)) : Good w s (B :: A :: os) := h.perm (List.Perm.swap _ _ _)
theorem Good.shareNext {w : World} {s A B : Res} {os : List Res} (h : Good w s (A :: B :: os)) : ∃ s1, Good w s1 (A :: os) ∧ Le s s1 ∧ Le B s1 := by
  have h2 : Good w s (B :: A :: os) := h.perm (List.Perm.swap _ _ _)
  exact h2.letgo
theorem int_chunks {k : IntKind} {s : Res} : ∀ {cs : List Value} {xs : List Int}, Chunks (RInt k) 1 s cs xs → cs = xs.map (Value.int k) ∧ ∀ x ∈ xs, Lw.rng k x
  | _, [], h => ⟨h, by simp⟩
  | _, x :: xs, ⟨vs, rest, e, _, ⟨hv, hr⟩, h⟩ => by
    obtain ⟨h1, h2⟩ := int_chunks h
    subst e; subst hv
    exact ⟨by simp [h1], by simpa using ⟨hr, h2⟩⟩
theorem chunks_int {k : IntKind} {s : Res} : ∀ {xs : List Int}, (∀ x ∈ xs, Lw.rng k x) → Chunks (RInt k) 1 s (xs.map (Value.int k)) xs
  | [], _ => rfl
  | x :: xs, h => ⟨[.int k x], xs.map (Value.int k), rfl, rfl, ⟨rfl, h x (by simp)⟩, chunks_int fun y hy => h y (by simp [hy])⟩
abbrev ptr (b : Nat) : Value := .pointer (some ⟨b, 0, none⟩)
abbrev i64 (k : Int) : Value := .int .i64 k
theorem Imm.front {α : Type} {R : Res → List Value → α → Prop} {sz c : Nat} {s : Res} {a : Option Addr} {xs ys : List α} (h : Imm R sz s a c (xs ++ ys)) : Imm R sz s a c xs := by
  refine ⟨by have := h.1; simp only [List.length_append] at this; omega, h.2.1, ?_⟩
  rcases h.2.2 with e | ⟨ad, rfl, hr⟩
  · exact .inl (List.append_eq_nil_iff.1 e).1
  · exact .inr ⟨ad, rfl, hr.take⟩
/-- A new empty row of one's own. -/
theorem Own.fresh {α : Type} {R : Res → List Value → α → Prop} {sz : Nat} {el : TypeId} {s : Res} {b : Nat} : Own R sz el s (Res.one b (.cells #[] el)) (some ⟨b, 0, none⟩) 0 [] := .inr ⟨b, #[], rfl, if_pos rfl, Nat.le_refl _, Nat.zero_le _, by simp, by simp [Chunks]⟩
/-- A piece is lent: read as shared, then one's own again. -/
theorem Good.lend {w : World} {s A : Res} {os : List Res} (h : Good w s (A :: os)) : Good w (s.join A) os ∧ Le s (s.join A) ∧ Le A (s.join A) ∧ ∀ w', Good w' (s.join A) os → Good w' s (A :: os) := by
  have hle := Res.le_join_right h.2.1.symm
  refine ⟨h.share, Res.le_join_left _ _, hle, fun w' hg => ?_⟩
  refine (congrArg (fun z => Good w' z (A :: os)) (funext fun b => ?_)).mp (hg.unshare hle)
  cases hA : A b with
  | some x => exact (h.2.1 b (by rw [hA]; simp)).symm
  | none =>
    simp only [Res.join, hA]
    cases s b <;> rfl
end Go.Lw

/-
  What all walks over this seat begin with: its pieces, its facts, its kind of order.
-/
namespace Go.Lw
open Go.Proofs
theorem mixed : Tryd.prog.follows .mixedOrders = true := by kernel_rfl
abbrev nilSl : Value := .slice none 0 0
end Go.Lw

/-
  The walk engine: maps with int keys that the code itself has made: what their block holds is a list of keys and values.
-/
namespace Go.Lw

/-- Block g of the piece A is a map that holds these, keys all different. -/
def MapAt (A : Res) (g : Nat) (l : List (Int × Value)) : Prop :=
  ∃ es c, A g = some (.map es c) ∧ es.toList.map (fun e => (e.key, e.val)) = l.map (fun p => (Value.int .i64 p.1, p.2)) ∧ (l.map (·.1)).Nodup ∧ ∀ p ∈ l, rng .i64 p.1
theorem MapAt.nil (g : Nat) : MapAt (Res.one g (.map #[] 0)) g [] := ⟨#[], 0, if_pos rfl, rfl, List.nodup_nil, fun _ h => by cases h⟩

theorem key_rng {a : Int} (h : rng .i64 a) : (Lit.int .i64 a).wf = true := by
  simp only [rng] at h
  simp only [Lit.wf]
  have h1 : IntKind.i64.min = -9223372036854775808 := by decide
  have h2 : IntKind.i64.max = 9223372036854775807 := by decide
  simp [h1, h2]
  omega

section
variable {P : Program} {n : Nat} {ops : Array Oper} {Q : Exit → Act → World → Prop} {S : World → Prop} {rest : List (Bool × Oper)} {E : Env} {w : World} {o : Oper} {d : Nat} {v : Value} {x y z : Operand} {T : Bool} {s A : Res} {os : List Res}

theorem map_find {kt : TypeId} {es : Array MapEntry} {l : List (Int × Value)} {k : Int} (hk : P.underlying kt = some (.int .i64)) (he : es.toList.map (fun e => (e.key, e.val)) = l.map (fun p => (Value.int .i64 p.1, p.2))) (hn : (l.map (·.1)).Nodup)
    (hr : ∀ p ∈ l, rng .i64 p.1) (hkr : rng .i64 k) :
    (∀ v, (k, v) ∈ l → ∃ j, (Instr.findKey kt (.int .i64 k) es.toList).run P w = .ok (some (j, v)) w) ∧ ((∀ p ∈ l, p.1 ≠ k) → (Instr.findKey kt (.int .i64 k) es.toList).run P w = .ok none w) := by
  have K := Maps.int_keyed hk
  have hkey := Maps.keyOf_int_mk hk (key_rng hkr)
  have hin : ∀ e ∈ es.toList, ∃ p ∈ l, (e.key, e.val) = (Value.int .i64 p.1, p.2) := fun e h => by
    have h1 : (e.key, e.val) ∈ es.toList.map (fun e => (e.key, e.val)) := List.mem_map.2 ⟨e, h, rfl⟩
    rw [he] at h1
    obtain ⟨p, hp, e⟩ := List.mem_map.1 h1
    exact ⟨p, hp, e.symm⟩
  have hout : ∀ p ∈ l, ∃ e ∈ es.toList, (e.key, e.val) = (Value.int .i64 p.1, p.2) := fun p h => by
    have h1 : (Value.int .i64 p.1, p.2) ∈ l.map (fun p => (Value.int .i64 p.1, p.2)) := List.mem_map.2 ⟨p, h, rfl⟩
    rw [← he] at h1
    obtain ⟨e, hp, e'⟩ := List.mem_map.1 h1
    exact ⟨e, hp, e'⟩
  have hks : ∀ e ∈ es.toList, ∃ l, keyOf P kt e.key = some l := fun e h => by
    obtain ⟨p, hp, e1⟩ := hin e h
    rw [(Prod.mk.inj e1).1]
    exact ⟨_, Maps.keyOf_int_mk hk (key_rng (hr p hp))⟩
  rcases K.find w hkey es.toList hks with ⟨h1, h2⟩ | ⟨j, e0, h1, h2, h3⟩
  · refine ⟨fun v hv => ?_, fun _ => h1⟩
    obtain ⟨e, hm, e1⟩ := hout _ hv
    exact absurd (Prod.mk.inj e1).1 (h2 e hm)
  · obtain ⟨p, hp, e1⟩ := hin e0 (List.mem_of_getElem? h2)
    obtain ⟨e2, e3⟩ := Prod.mk.inj e1
    rw [h3] at e2
    have hpk : k = p.1 := by injection e2
    refine ⟨fun v hv => ⟨j, ?_⟩, fun h => absurd hpk.symm (h p hp)⟩
    have hpv : p.2 = v := by
      obtain ⟨i, hi, ei⟩ := List.getElem_of_mem hp
      obtain ⟨i', hi', ei'⟩ := List.getElem_of_mem hv
      have hii : i = i' := by
        refine (List.getElem_inj (h₀ := by simpa using hi) (h₁ := by simpa using hi') hn).1 ?_
        simp only [List.getElem_map, ei, ei']
        exact hpk.symm
      subst hii
      rw [ei] at ei'
      rw [ei']
    rw [h1, e3, hpv]

/-- A map is made. -/
theorem RL.makeMap {t : TypeId} (hg : wants ops E o = some true) (hd : o.dst = some d) (hb : Nat.blt d n = true) (ho : o.op = .makeMap t none) (hG : Good w s os)
    (h : ∀ b w', Good w' s (Res.one b (.map #[] 0) :: os) → Aux w w' → S w' ∧ RL P n ops Q S rest ((d, .map (some b)) :: E) w') : RL P n ops Q S ((false, o) :: rest) E w := by
  obtain ⟨h1, h2⟩ := h w.heap.size _ (hG.alloc (.map #[] 0)) (Aux.alloc w _)
  refine RL.step hg hd hb (fun ac ha => ?_) h1 h2
  unfold execOp
  simp only [ho]
  have hrun : (Instr.makeMap t none).run P w = .ok (.map (some w.heap.size)) (w.alloc (.map #[] 0)) := rfl
  simp [hrun]

/-- A key that is there. -/
theorem RL.look {t kt et : TypeId} {g : Nat} {k : Int} {u : Value} {l : List (Int × Value)} {c : Bool} (hg : wants ops E o = some true) (hd : o.dst = some d) (hb : Nat.blt d n = true) (ho : o.op = .lookup t x y c)
    (ht : P.underlying t = some (.map kt et)) (hk : P.underlying kt = some (.int .i64)) (hx : ev E x = some (.map (some g))) (hy : ev E y = some (.int .i64 k)) (hM : MapAt A g l) (hA : In A w) (hm : (k, u) ∈ l)
    (h : RL P n ops Q S rest ((d, if c then .tuple #[u, .bool true] else u) :: E) w) : RL P n ops Q S ((false, o) :: rest) E w := by
  obtain ⟨es, cl, hb', he, hn, hr⟩ := hM
  have hw := hA g _ hb'
  obtain ⟨j, hf⟩ := (map_find (w := w) hk he hn hr (hr _ hm)).1 u hm
  have hkey := Maps.keyOf_int_mk hk (key_rng (hr _ hm))
  refine fun hS => RL.step hg hd hb (fun ac ha => ?_) hS h hS
  unfold execOp
  simp only [ho, ha.ev hx, ha.ev hy]
  cases c <;> simp [Instr.lookup, run_underlying ht, MapKept.run_getObj_map hw, (Maps.int_keyed hk).check w _ hkey, hf, Result.andThen]

/-- A key that is not there. -/
theorem RL.lookNo {t kt et : TypeId} {g : Nat} {k : Int} {u : Value} {l : List (Int × Value)} {c : Bool} (hg : wants ops E o = some true) (hd : o.dst = some d) (hb : Nat.blt d n = true) (ho : o.op = .lookup t x y c)
    (ht : P.underlying t = some (.map kt et)) (hk : P.underlying kt = some (.int .i64)) (hz : ∀ w, (zeroValue et).run P w = .ok u w) (hx : ev E x = some (.map (some g))) (hy : ev E y = some (.int .i64 k)) (hM : MapAt A g l) (hA : In A w) (hkr : rng .i64 k) (hm : ∀ p ∈ l, p.1 ≠ k)
    (h : RL P n ops Q S rest ((d, if c then .tuple #[u, .bool false] else u) :: E) w) : RL P n ops Q S ((false, o) :: rest) E w := by
  obtain ⟨es, cl, hb', he, hn, hr⟩ := hM
  have hw := hA g _ hb'
  have hf := (map_find (w := w) hk he hn hr hkr).2 hm
  have hkey := Maps.keyOf_int_mk hk (key_rng hkr)
  refine fun hS => RL.step hg hd hb (fun ac ha => ?_) hS h hS
  unfold execOp
  simp only [ho, ha.ev hx, ha.ev hy]
  cases c <;> simp [Instr.lookup, run_underlying ht, MapKept.run_getObj_map hw, (Maps.int_keyed hk).check w _ hkey, hf, hz, Result.andThen]

theorem run_mapNew {t kt et : TypeId} {g : Nat} {k : Int} {u : Value} {l : List (Int × Value)} (ht : P.underlying t = some (.map kt et)) (hk : P.underlying kt = some (.int .i64)) (hM : MapAt A g l) (hA : In A w) (hkr : rng .i64 k) (hm : ∀ p ∈ l, p.1 ≠ k) :
    ∃ x x' : Obj, A g = some x ∧ (Instr.mapUpdate t (.map (some g)) (.int .i64 k) u).run P w = .ok () { w with heap := w.heap.setIfInBounds g x' } ∧ MapAt (A.put g x') g (l ++ [(k, u)]) := by
  obtain ⟨es, cl, hb', he, hn, hr⟩ := hM
  have hw := hA g _ hb'
  have hf := (map_find (w := w) hk he hn hr hkr).2 hm
  have hkey := Maps.keyOf_int_mk hk (key_rng hkr)
  refine ⟨_, .map (es.push ⟨.int .i64 k, u, cl⟩) (cl + 1), hb', ?_, ?_⟩
  · simp [Instr.mapUpdate, run_underlying ht, MapKept.run_getObj_map hw, (Maps.int_keyed hk).check w _ hkey, hf, MapKept.run_setObj_map _ hw, Result.andThen]
  · refine ⟨es.push ⟨.int .i64 k, u, cl⟩, cl + 1, by simp [Res.put], by simp [he], ?_, fun p hp => ?_⟩
    · rw [List.map_append, List.nodup_append]
      refine ⟨hn, by simp, fun a ha b hb' => ?_⟩
      obtain ⟨p, hp, rfl⟩ := List.mem_map.1 ha
      simp only [List.map_cons, List.map_nil, List.mem_singleton] at hb'
      subst hb'
      exact hm p hp
    · rcases List.mem_append.1 hp with h | h
      · exact hr p h
      · rw [List.mem_singleton.1 h]; exact hkr

/-- A new key is written. -/
theorem RL.mapNew {t kt et : TypeId} {g i : Nat} {k : Int} {u : Value} {l : List (Int × Value)} (hg : wants ops E o = some true) (hd : o.dst = none) (ho : o.op = .mapUpdate t x y z ∨ o.op = .insert t x y z)
    (ht : P.underlying t = some (.map kt et)) (hk : P.underlying kt = some (.int .i64)) (hx : ev E x = some (.map (some g))) (hy : ev E y = some (.int .i64 k)) (hz : ev E z = some u) (hG : Good w s os) (hi : os[i]? = some A) (hM : MapAt A g l) (hkr : rng .i64 k) (hm : ∀ p ∈ l, p.1 ≠ k)
    (h : ∀ A' w', Good w' s (os.set i A') → Aux w w' → MapAt A' g (l ++ [(k, u)]) → (∀ b, b ≠ g → A' b = A b) → S w' ∧ RL P n ops Q S rest E w') : RL P n ops Q S ((false, o) :: rest) E w := by
  have hf := hG.front i hi
  obtain ⟨q, q', hq, hrun, hM'⟩ := run_mapNew (P := P) (w := w) (u := u) ht hk hM hf.1 hkr hm
  have hlt : g < w.heap.size := hf.1.lt (by rw [hq]; simp)
  have hw := hf.write (w' := { w with heap := w.heap.setIfInBounds g q' }) (y := q') hq (by simp [hlt]) (fun k' _ hk' => by simp [Array.getElem?_setIfInBounds, Ne.symm hk'])
  obtain ⟨h2, h3⟩ := h _ _ (Good.back i hi hw) ⟨rfl, rfl, rfl, by simp⟩ hM' (fun b hb => by simp [Res.put, hb])
  refine RL.skip hg hd (fun ac ha => ?_) h2 h3
  unfold execOp
  rcases ho with ho | ho <;> simp only [ho, ha.ev hx, ha.ev hy, ha.ev hz] <;> simp [hrun]
end
end Go.Lw

/-
  A LAW'S FRAME: what the row's reading of an argument gives the walk; how the walk's end gives the row's end. Over any program.
-/
namespace Go.Lw
open Go.ChangeShapes Go.WideShapes Go.ChangeAt Go.RowKit

/-- All that there is. -/
def all (W : World) : Res := fun b => W.heap[b]?
theorem all_good (W : World) : Good W (all W) [] := fun _ _ h => h

/-- How many values and letters a reading holds (as the seats' 'uptoBulk'). -/
def Opens {α H : Type} (bulk : DataW H → Nat) (enc : TypeId × Value → H) (P : Program) (W : World) (t : TypeId) (R : Res → List Value → α → Prop) (bk : α → Nat) : Prop :=
  ∀ (fuel : Nat) (cs : List Value) (d : DataW H) (ps : List MemPlace), DataW.trod enc P W 0 (fun _ => true) true fuel t cs = some (d, ps) → ∃ x : α, R (all W) cs x ∧ bk x ≤ bulk d

section
variable {α β H : Type} {bulk : DataW H → Nat} {enc : TypeId × Value → H} {P : Program} {W : World} {t e : TypeId} {R : Res → List Value → α → Prop} {bk : α → Nat}

theorem Opens.imp {R' : Res → List Value → β → Prop} {bk' : β → Nat} (h : Opens bulk enc P W t R bk) (g : α → β) (hR : ∀ s vs x, R s vs x → R' s vs (g x)) (hb : ∀ x, bk' (g x) ≤ bk x) : Opens bulk enc P W t R' bk' := fun fuel cs d ps hd => by
  obtain ⟨x, h1, h2⟩ := h fuel cs d ps hd
  exact ⟨g x, hR _ _ _ h1, Nat.le_trans (hb x) h2⟩

theorem wf_rng {k : IntKind} {n : Int} (h : (Lit.int k n).wf = true) : rng k n := by
  simp only [Lit.wf] at h
  cases k <;> simp only [IntKind.signed, IntKind.bits, IntKind.min, IntKind.max] at h <;> simp only [rng] <;> simp at h <;> omega
theorem opens_int {k : IntKind} (ht : P.underlying t = some (.int k)) : Opens bulk enc P W t (RInt k) (fun _ => 0) := fun fuel cs d ps hd => by
  obtain ⟨n, rfl, _, hw⟩ := DataW.trod_int ht hd
  exact ⟨n, ⟨rfl, wf_rng hw⟩, Nat.zero_le _⟩
theorem opens_bool (ht : P.underlying t = some .bool) : Opens bulk enc P W t RBool (fun _ => 0) := fun fuel cs d ps hd => by
  obtain ⟨b, rfl, _⟩ := DataW.trod_bool ht hd
  exact ⟨b, rfl, Nat.zero_le _⟩
theorem opens_str (ht : P.underlying t = some .string) (hb : ∀ b : List UInt8, b.length ≤ bulk (.lit (.string b))) : Opens bulk enc P W t RStr (fun b => b.size) := fun fuel cs d ps hd => by
  obtain ⟨s, rfl, hx, hl⟩ := DataW.trod_string ht hd
  simp only [Prod.mk.injEq] at hx
  refine ⟨s, ⟨rfl, hl⟩, ?_⟩
  rw [hx.1]
  have := hb s.data.toList
  rw [Array.length_toList] at this
  exact this

theorem cells_holds {a : Addr} {n : Nat} {cs : List Value} (h : W.cells? 0 a n = some cs) : cs.length = n ∧ ∀ j u, cs[j]? = some u → W.cell? (a.add j) = some u := by
  simp only [World.cells?, Nat.zero_le, if_true] at h
  have key : ∀ (n k : Nat) (cs : List Value), (List.range' k n).mapM (fun i => W.cell? (a.add i)) = some cs → cs.length = n ∧ ∀ j u, cs[j]? = some u → W.cell? (a.add (k + j)) = some u := by
    intro n
    induction n with
    | zero => intro k cs h; simp at h; subst h; simp
    | succ n ih =>
      intro k cs h
      rw [List.range'_succ, List.mapM_cons] at h
      cases hc : W.cell? (a.add k) with
      | none => simp [hc] at h
      | some u =>
        cases hr : (List.range' (k + 1) n).mapM (fun i => W.cell? (a.add i)) with
        | none => simp [hc, hr] at h
        | some us =>
          simp [hc, hr] at h
          subst h
          obtain ⟨h1, h2⟩ := ih (k + 1) us hr
          refine ⟨by simp [h1], fun j v hj => ?_⟩
          cases j with
          | zero => simp at hj; subst hj; simpa using hc
          | succ j =>
            have := h2 j v (by simpa using hj)
            rwa [show k + (j + 1) = k + 1 + j by omega]
  have := key n 0 cs (by rw [← List.range_eq_range']; exact h)
  simpa using this
theorem cell_block {a : Addr} {u : Value} (h : W.cell? a = some u) : ∃ cs el fr, W.heap[a.block]? = some (.cells cs el fr) ∧ a.spot = none ∧ cs[a.off]? = some u := by
  simp only [World.cell?] at h
  split at h
  · rename_i cs el fr hh
    split at h
    · cases h
    · rename_i hs
      exact ⟨cs, el, fr, hh, by simpa using hs, h⟩
  · cases h

/-- A slice, its elements opened. -/
theorem opens_slice (ht : P.underlying t = some (.slice e)) {sz : Nat} (hsz : P.cellsOf e = sz) (h0 : 0 < sz) (hel : Opens bulk enc P W e R bk)
    (hb : ∀ l r, (l.map bulk).sum ≤ bulk (.slice l r)) (hb1 : ∀ l r : List (DataW H), l.length ≤ bulk (.slice l r)) :
    Opens bulk enc P W t (RSl R sz) (fun xs => max xs.length ((xs.map bk).sum)) := fun fuel cs d ps hd => by
  rcases DataW.trod_slice ht hd with ⟨rfl, hx⟩ | ⟨a, len, cap, elems, rest, n, _, rfl, hx, _, hl, hm, hlen, hall, _, _⟩
  · exact ⟨[], ⟨none, 0, rfl, Imm.nil _ _ _ (Nat.zero_le _)⟩, by simp⟩
  · simp only [Prod.mk.injEq] at hx
    rw [hsz] at hall
    -- element by element
    have key : ∀ m, m ≤ len → ∃ (xs : List α) (vs : List Value), xs.length = m ∧ Chunks R sz (all W) vs xs ∧ (∀ j u, vs[j]? = some u → W.cell? (a.add j) = some u) ∧ (xs.map bk).sum ≤ ((elems.take m).map fun y => bulk y.1).sum := by
      intro m
      induction m with
      | zero => intro _; exact ⟨[], [], rfl, rfl, by simp, by simp⟩
      | succ m ih =>
        intro hm'
        obtain ⟨xs, vs, h1, h2, h3, h4⟩ := ih (by omega)
        have he := hall m (by omega)
        have hme : m < elems.length := by omega
        rw [List.getElem?_eq_getElem hme] at he
        obtain ⟨cs', hc1, hc2⟩ := Option.bind_eq_some_iff.1 he
        obtain ⟨hcl, hcc⟩ := cells_holds hc1
        obtain ⟨x, hR, hbx⟩ := hel n cs' elems[m].1 elems[m].2 hc2
        have hvl := h2.length
        refine ⟨xs ++ [x], vs ++ cs', by simp [h1], h2.append (Chunks.single hcl hR), fun j u hj => ?_, ?_⟩
        · by_cases hj' : j < vs.length
          · exact h3 j u (by rwa [List.getElem?_append_left hj'] at hj)
          · rw [List.getElem?_append_right (by omega)] at hj
            have := hcc _ u hj
            rw [add_add] at this
            rwa [show m * sz + (j - vs.length) = j by rw [hvl, h1] at *; omega] at this
        · rw [List.take_succ_eq_append_getElem hme]
          simp only [List.map_append, List.sum_append, List.map_cons, List.map_nil, List.sum_cons, List.sum_nil]
          omega
    obtain ⟨xs, vs, h1, h2, h3, h4⟩ := key len (Nat.le_refl _)
    refine ⟨xs, ⟨some a, cap, by rw [h1], by rw [h1]; exact hl, hm, ?_⟩, ?_⟩
    · cases xs with
      | nil => exact .inl rfl
      | cons x xs =>
        refine .inr ⟨a, rfl, vs, ?_, h2⟩
        have hvl := h2.length
        have hpos : 0 < vs.length := by rw [hvl]; simp only [List.length_cons]; exact Nat.mul_pos (by omega) h0
        have hc0 := h3 0 vs[0] (by simp [hpos])
        have hz : a.add 0 = a := by unfold Addr.add; simp
        rw [hz] at hc0
        obtain ⟨cb, el, fr, hb', hsp, _⟩ := cell_block hc0
        refine ⟨cb, el, fr, hb', hsp, fun j u hj => ?_⟩
        obtain ⟨cb', el', fr', hb'', _, hcu⟩ := cell_block (h3 j u hj)
        rw [add_block, hb'] at hb''
        cases hb''
        rwa [add_off] at hcu
    · rw [hx.1]
      have hb' := hb (elems.map (·.1)) (rest.map (·.1))
      have hb1' := hb1 (elems.map (·.1)) (rest.map (·.1))
      rw [List.take_of_length_le (by omega)] at h4
      simp only [List.map_map, List.length_map] at hb' hb1'
      have e1 : (elems.map (bulk ∘ fun y => y.1)).sum = (elems.map fun y => bulk y.1).sum := rfl
      rw [e1] at hb'
      show max xs.length ((xs.map bk).sum) ≤ _
      omega

/-! ### structs -/
def RNil : Res → List Value → Unit → Prop := fun _ vs _ => vs = []
def RCons (k : Nat) (R : Res → List Value → α → Prop) (Q : Res → List Value → β → Prop) : Res → List Value → α × β → Prop := fun s vs x =>
  ∃ us rest, vs = us ++ rest ∧ us.length = k ∧ R s us x.1 ∧ Q s rest x.2
/-- The fields from number i on, from cell off on. -/
def OpensF (bulk : DataW H → Nat) (enc : TypeId × Value → H) (P : Program) (W : World) (fs : List Field) (off : Nat) (R : Res → List Value → α → Prop) (bk : α → Nat) : Prop :=
  ∀ (fuel : Nat) (cs : List Value) (xs : List (DataW H × List MemPlace)), xs.length = fs.length →
    (∀ (i : Nat) (f : Field), fs[i]? = some f → DataW.trod enc P W 0 (fun _ => true) true fuel f.type ((cs.drop f.offset).take (P.cellsOf f.type)) = xs[i]?) → cs.length = off + (fs.map fun f => P.cellsOf f.type).sum →
    ∃ x : α, R (all W) (cs.drop off) x ∧ bk x ≤ (xs.map fun y => bulk y.1).sum
theorem opens_nil (off : Nat) : OpensF bulk enc P W [] off RNil (fun _ => 0) := fun fuel cs xs hl _ hc => by
  refine ⟨(), ?_, Nat.zero_le _⟩
  simp only [List.map_nil, List.sum_nil, Nat.add_zero] at hc
  exact List.drop_eq_nil_of_le (by omega)
theorem opens_cons {f : Field} {fs : List Field} {off k : Nat} {Q : Res → List Value → β → Prop} {bq : β → Nat} (ho : f.offset = off) (hk : P.cellsOf f.type = k) (hf : Opens bulk enc P W f.type R bk) (hr : OpensF bulk enc P W fs (off + k) Q bq) :
    OpensF bulk enc P W (f :: fs) off (RCons k R Q) (fun x => bk x.1 + bq x.2) := fun fuel cs xs hl h hc => by
  cases xs with
  | nil => simp at hl
  | cons y ys =>
    have h0 := h 0 f rfl
    simp only [List.map_cons, List.sum_cons, hk] at hc
    rw [ho, hk] at h0
    obtain ⟨x, hx, hb⟩ := hf fuel _ y.1 y.2 (by simpa using h0)
    obtain ⟨z, hz, hb'⟩ := hr fuel cs ys (by simpa using hl) (fun i g hg => by simpa using h (i + 1) g (by simpa using hg)) (by omega)
    refine ⟨(x, z), ⟨(cs.drop off).take k, cs.drop (off + k), ?_, ?_, hx, hz⟩, ?_⟩
    · rw [← List.drop_drop, List.take_append_drop]
    · simp only [List.length_take, List.length_drop]; omega
    · simp only [List.map_cons, List.sum_cons]; omega
theorem opens_struct {fs : Array Field} (ht : P.underlying t = some (.struct fs)) (hs : P.cellsOf t = (fs.toList.map fun f => P.cellsOf f.type).sum) (h : OpensF bulk enc P W fs.toList 0 R bk)
    (hb : ∀ l, (l.map bulk).sum ≤ bulk (.agg l)) : Opens bulk enc P W t R bk := fun fuel cs d ps hd => by
  obtain ⟨xs, n, _, hx, hcl, hxl, hall⟩ := DataW.trod_struct ht hd
  simp only [Prod.mk.injEq] at hx
  obtain ⟨x, h1, h2⟩ := h n cs xs (by simpa using hxl) (fun i f hi => hall i f (by simpa using hi)) (by rw [hcl, hs]; omega)
  refine ⟨x, by simpa using h1, Nat.le_trans h2 ?_⟩
  rw [hx.1]
  have := hb (xs.map (·.1))
  simpa [List.map_map, Function.comp_def] using this
end

/-! ### the end -/
theorem below_of {W W' : World} {s' : Res} {os : List Res} (hg : Good W' s' os) (hl : Le (all W) s') (ha : Aux W W') : Below W.heap.size W W' :=
  ⟨ha.os, ha.tape, ha.output, ha.size, fun k hk => by
    have h1 : W.heap[k]? = some W.heap[k] := by simp [hk]
    rw [h1]
    exact hg.sh k _ (hl k _ h1)⟩

theorem trodAll_stays {H : Type} {enc : TypeId × Value → H} {P : Program} (hl : laidOutB P = true) {W W' : World} (hb : Below W.heap.size W W') : ∀ {ts : List TypeId} {vs : List Value} {ds : List (DataW H)} {ps : List MemPlace},
    (ts.all fun t => P.readableRec t && decide (t < P.types.size)) = true → DataW.TrodAll enc P W 0 (fun _ => true) true ts vs ds ps → (∀ x ∈ ps, x.block < W.heap.size) →
    DataW.TrodAll enc P W' 0 (fun b => decide (b < W.heap.size)) true ts vs ds ps
  | [], [], [], ps, _, h, _ => h
  | t :: ts, v :: vs, d :: ds, ps, ht, h, hlt => by
    obtain ⟨p, q, h1, h2, rfl⟩ := h
    simp only [List.all_cons, Bool.and_eq_true, decide_eq_true_eq] at ht
    refine ⟨p, q, Below.trod hl ht.1.1 ht.1.2 h1 hb (fun x hx => hlt x (by simp [hx])), trodAll_stays hl hb ?_ h2 (fun x hx => hlt x (by simp [hx])), rfl⟩
    exact ht.2
  | [], _ :: _, _, _, _, h, _ => h.elim
  | [], [], _ :: _, _, _, h, _ => h.elim
  | _ :: _, [], _, _, _, h, _ => h.elim
  | _ :: _, _ :: _, [], _, _, h, _ => h.elim

/-- A law's end: it hands back true, and what was there is there. -/
theorem law_end {H : Type} {enc : TypeId × Value → H} {P : Program} {f : FuncId} {fn : Func} {spec : ChangeSpec} {W : World} {args : Array Value} {ds gs : List (DataW H)} {before : List MemPlace} {tb : TypeId}
    (hl : laidOutB P = true) (hp : (fn.params.toList.all fun t => P.readableRec t && decide (t < P.types.size)) = true) (hv : spec.vars = []) (hr : fn.resultTypes = #[tb]) (hb : P.underlying tb = some .bool)
    (hW : DataW.Whole enc P fn.params.toList spec.vars false W args.toList ds gs before) (hs : (spec.fn H (ds ++ gs)).results = [.lit (.bool true)] ∧ (spec.fn H (ds ++ gs)).args = ds ∧ (spec.fn H (ds ++ gs)).vars = [])
    (hc : Calls P f args W (Post W (all W) [] fun _ _ r => r = .bool true)) :
    Calls P f args W fun e W' => ∃ v, e = .returned v ∧ spec.post enc P fn false true false false W args v W' := by
  refine hc.mono fun e W' ⟨v, s', A, he, hle, hg, ha, hv'⟩ => ⟨v, he, ?_⟩
  have hbl := below_of hg hle ha
  have hlt := hW.lt
  have hW' := hW
  obtain ⟨p, q, hA, hV, rfl, _, _⟩ := hW
  obtain ⟨s1, s2, s3⟩ := hs
  subst hv'
  refine ⟨ds, gs, p ++ q, [], p, [], hW', ?_, ?_, ?_, hbl.frame _, fun h => by cases h⟩
  · rw [s1, hr]
    exact trodAll_mk1 (shut_bool hb _)
  · rw [s2]
    exact trodAll_stays hl hbl hp hA (fun x hx => hlt x (by simp [hx]))
  · rw [s3, hv]
    rfl
end Go.Lw
