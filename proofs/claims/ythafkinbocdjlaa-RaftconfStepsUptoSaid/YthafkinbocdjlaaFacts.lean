import Derived.Test.YthafkinbocdjlaaRules3
import Derived.Test.YthafkinbocdjlaaProg
/-! Facts about the types and functions of this seat, printed by a program. -/
namespace Go.Lw
open Go.Proofs
theorem ty0 : tyc Try.prog 0 = some (false, 1) := by kernel_rfl
theorem ze0 : zer Try.prog 0 = some ([Go.Value.tuple #[]]) := by kernel_rfl
theorem ty1 : tyc Try.prog 1 = some (false, 1) := by kernel_rfl
theorem ze1 : zer Try.prog 1 = some ([Go.Value.nilFunc]) := by kernel_rfl
theorem ty2 : tyc Try.prog 2 = some (false, 1) := by kernel_rfl
theorem ze2 : zer Try.prog 2 = some ([Go.Value.int Go.IntKind.i64 (0)]) := by kernel_rfl
theorem ty3 : tyc Try.prog 3 = some (false, 1) := by kernel_rfl
theorem ze3 : zer Try.prog 3 = some ([Go.Value.int Go.IntKind.i64 (0)]) := by kernel_rfl
theorem ty4 : tyc Try.prog 4 = some (false, 1) := by kernel_rfl
theorem ze4 : zer Try.prog 4 = some ([Go.Value.bool false]) := by kernel_rfl
theorem ty5 : tyc Try.prog 5 = some (false, 1) := by kernel_rfl
theorem ze5 : zer Try.prog 5 = some ([Go.Value.int Go.IntKind.u8 (0)]) := by kernel_rfl
theorem ty6 : tyc Try.prog 6 = some (false, 1) := by kernel_rfl
theorem ze6 : zer Try.prog 6 = some ([Go.Value.int Go.IntKind.u8 (0)]) := by kernel_rfl
theorem ty7 : tyc Try.prog 7 = some (true, 4) := by kernel_rfl
theorem ze7 : zer Try.prog 7 = some ([Go.Value.int Go.IntKind.i64 (0), Go.Value.int Go.IntKind.i64 (0), Go.Value.bool false, Go.Value.int Go.IntKind.u8 (0)]) := by kernel_rfl
theorem pl7 : plc Try.prog 7 = some ([(0, 1), (1, 1), (2, 1), (3, 1)]) := by kernel_rfl
theorem fl7_0 : fld Try.prog 7 0 = some (0, 1) := by kernel_rfl
theorem fl7_1 : fld Try.prog 7 1 = some (1, 1) := by kernel_rfl
theorem fl7_2 : fld Try.prog 7 2 = some (2, 1) := by kernel_rfl
theorem fl7_3 : fld Try.prog 7 3 = some (3, 1) := by kernel_rfl
theorem ty8 : tyc Try.prog 8 = some (true, 4) := by kernel_rfl
theorem ze8 : zer Try.prog 8 = some ([Go.Value.int Go.IntKind.i64 (0), Go.Value.int Go.IntKind.i64 (0), Go.Value.bool false, Go.Value.int Go.IntKind.u8 (0)]) := by kernel_rfl
theorem pl8 : plc Try.prog 8 = some ([(0, 1), (1, 1), (2, 1), (3, 1)]) := by kernel_rfl
theorem fl8_0 : fld Try.prog 8 0 = some (0, 1) := by kernel_rfl
theorem fl8_1 : fld Try.prog 8 1 = some (1, 1) := by kernel_rfl
theorem fl8_2 : fld Try.prog 8 2 = some (2, 1) := by kernel_rfl
theorem fl8_3 : fld Try.prog 8 3 = some (3, 1) := by kernel_rfl
theorem ty9 : tyc Try.prog 9 = some (false, 1) := by kernel_rfl
theorem ze9 : zer Try.prog 9 = some ([Go.Value.string { data := #[] }]) := by kernel_rfl
theorem ty10 : tyc Try.prog 10 = some (false, 1) := by kernel_rfl
theorem ze10 : zer Try.prog 10 = some ([Go.Value.string { data := #[] }]) := by kernel_rfl
theorem ty11 : tyc Try.prog 11 = some (false, 1) := by kernel_rfl
theorem ze11 : zer Try.prog 11 = some ([Go.Value.string { data := #[] }]) := by kernel_rfl
theorem ty12 : tyc Try.prog 12 = some (false, 1) := by kernel_rfl
theorem ze12 : zer Try.prog 12 = some ([Go.Value.int Go.IntKind.u64 (0)]) := by kernel_rfl
theorem ty13 : tyc Try.prog 13 = some (true, 2) := by kernel_rfl
theorem ze13 : zer Try.prog 13 = some ([Go.Value.string { data := #[] }, Go.Value.int Go.IntKind.u64 (0)]) := by kernel_rfl
theorem pl13 : plc Try.prog 13 = some ([(0, 1), (1, 1)]) := by kernel_rfl
theorem fl13_0 : fld Try.prog 13 0 = some (0, 1) := by kernel_rfl
theorem fl13_1 : fld Try.prog 13 1 = some (1, 1) := by kernel_rfl
theorem ty14 : tyc Try.prog 14 = some (true, 2) := by kernel_rfl
theorem ze14 : zer Try.prog 14 = some ([Go.Value.string { data := #[] }, Go.Value.int Go.IntKind.u64 (0)]) := by kernel_rfl
theorem pl14 : plc Try.prog 14 = some ([(0, 1), (1, 1)]) := by kernel_rfl
theorem fl14_0 : fld Try.prog 14 0 = some (0, 1) := by kernel_rfl
theorem fl14_1 : fld Try.prog 14 1 = some (1, 1) := by kernel_rfl
theorem ty15 : tyc Try.prog 15 = some (false, 1) := by kernel_rfl
theorem ze15 : zer Try.prog 15 = some ([Go.Value.pointer none]) := by kernel_rfl
theorem ty16 : tyc Try.prog 16 = some (false, 1) := by kernel_rfl
theorem ze16 : zer Try.prog 16 = some ([Go.Value.pointer none]) := by kernel_rfl
theorem ty17 : tyc Try.prog 17 = some (false, 1) := by kernel_rfl
theorem ze17 : zer Try.prog 17 = some ([Go.Value.pointer none]) := by kernel_rfl
theorem ty18 : tyc Try.prog 18 = some (true, 1) := by kernel_rfl
theorem ze18 : zer Try.prog 18 = some ([Go.Value.pointer none]) := by kernel_rfl
theorem pl18 : plc Try.prog 18 = some ([(0, 1)]) := by kernel_rfl
theorem fl18_0 : fld Try.prog 18 0 = some (0, 1) := by kernel_rfl
theorem ty19 : tyc Try.prog 19 = some (true, 1) := by kernel_rfl
theorem ze19 : zer Try.prog 19 = some ([Go.Value.pointer none]) := by kernel_rfl
theorem pl19 : plc Try.prog 19 = some ([(0, 1)]) := by kernel_rfl
theorem fl19_0 : fld Try.prog 19 0 = some (0, 1) := by kernel_rfl
theorem ty20 : tyc Try.prog 20 = some (false, 1) := by kernel_rfl
theorem ze20 : zer Try.prog 20 = some ([Go.Value.nilIface]) := by kernel_rfl
theorem ty21 : tyc Try.prog 21 = some (false, 1) := by kernel_rfl
theorem ze21 : zer Try.prog 21 = some ([Go.Value.int Go.IntKind.i32 (0)]) := by kernel_rfl
theorem ty22 : tyc Try.prog 22 = some (false, 1) := by kernel_rfl
theorem sl22 : slc Try.prog 22 = some (3, 1, 8) := by kernel_rfl
theorem ze22 : zer Try.prog 22 = some ([Go.Value.slice none 0 0]) := by kernel_rfl
theorem ty23 : tyc Try.prog 23 = some (true, 2) := by kernel_rfl
theorem ze23 : zer Try.prog 23 = some ([Go.Value.slice none 0 0, Go.Value.slice none 0 0]) := by kernel_rfl
theorem pl23 : plc Try.prog 23 = some ([(0, 1), (1, 1)]) := by kernel_rfl
theorem fl23_0 : fld Try.prog 23 0 = some (0, 1) := by kernel_rfl
theorem fl23_1 : fld Try.prog 23 1 = some (1, 1) := by kernel_rfl
theorem ty24 : tyc Try.prog 24 = some (true, 2) := by kernel_rfl
theorem ze24 : zer Try.prog 24 = some ([Go.Value.slice none 0 0, Go.Value.slice none 0 0]) := by kernel_rfl
theorem pl24 : plc Try.prog 24 = some ([(0, 1), (1, 1)]) := by kernel_rfl
theorem fl24_0 : fld Try.prog 24 0 = some (0, 1) := by kernel_rfl
theorem fl24_1 : fld Try.prog 24 1 = some (1, 1) := by kernel_rfl
theorem ty25 : tyc Try.prog 25 = some (false, 1) := by kernel_rfl
theorem sl25 : slc Try.prog 25 = some (33, 2, 16) := by kernel_rfl
theorem ze25 : zer Try.prog 25 = some ([Go.Value.slice none 0 0]) := by kernel_rfl
theorem ty26 : tyc Try.prog 26 = some (false, 1) := by kernel_rfl
theorem ze26 : zer Try.prog 26 = some ([Go.Value.nilFunc]) := by kernel_rfl
theorem ty27 : tyc Try.prog 27 = some (false, 1) := by kernel_rfl
theorem ze27 : zer Try.prog 27 = some ([Go.Value.nilFunc]) := by kernel_rfl
theorem ty28 : tyc Try.prog 28 = some (false, 1) := by kernel_rfl
theorem ze28 : zer Try.prog 28 = some ([Go.Value.int Go.IntKind.i64 (0)]) := by kernel_rfl
theorem ty29 : tyc Try.prog 29 = some (false, 1) := by kernel_rfl
theorem ze29 : zer Try.prog 29 = some ([Go.Value.tuple { toList := [Go.Value.agg #[Go.Value.slice none 0 0, Go.Value.slice none 0 0], Go.Value.int Go.IntKind.i64 (0)] }]) := by kernel_rfl
theorem ty30 : tyc Try.prog 30 = some (false, 1) := by kernel_rfl
theorem ze30 : zer Try.prog 30 = some ([Go.Value.nilFunc]) := by kernel_rfl
theorem ty31 : tyc Try.prog 31 = some (false, 1) := by kernel_rfl
theorem ze31 : zer Try.prog 31 = some ([Go.Value.int Go.IntKind.i64 (0)]) := by kernel_rfl
theorem ty32 : tyc Try.prog 32 = some (true, 2) := by kernel_rfl
theorem ze32 : zer Try.prog 32 = some ([Go.Value.int Go.IntKind.i64 (0), Go.Value.int Go.IntKind.i64 (0)]) := by kernel_rfl
theorem pl32 : plc Try.prog 32 = some ([(0, 1), (1, 1)]) := by kernel_rfl
theorem fl32_0 : fld Try.prog 32 0 = some (0, 1) := by kernel_rfl
theorem fl32_1 : fld Try.prog 32 1 = some (1, 1) := by kernel_rfl
theorem ty33 : tyc Try.prog 33 = some (true, 2) := by kernel_rfl
theorem ze33 : zer Try.prog 33 = some ([Go.Value.int Go.IntKind.i64 (0), Go.Value.int Go.IntKind.i64 (0)]) := by kernel_rfl
theorem pl33 : plc Try.prog 33 = some ([(0, 1), (1, 1)]) := by kernel_rfl
theorem fl33_0 : fld Try.prog 33 0 = some (0, 1) := by kernel_rfl
theorem fl33_1 : fld Try.prog 33 1 = some (1, 1) := by kernel_rfl
theorem ty34 : tyc Try.prog 34 = some (false, 1) := by kernel_rfl
theorem ze34 : zer Try.prog 34 = some ([Go.Value.nilFunc]) := by kernel_rfl
theorem ty35 : tyc Try.prog 35 = some (false, 1) := by kernel_rfl
theorem ze35 : zer Try.prog 35 = some ([Go.Value.nilFunc]) := by kernel_rfl
theorem ty36 : tyc Try.prog 36 = some (false, 1) := by kernel_rfl
theorem ze36 : zer Try.prog 36 = some ([Go.Value.nilFunc]) := by kernel_rfl
theorem ty37 : tyc Try.prog 37 = some (false, 1) := by kernel_rfl
theorem ze37 : zer Try.prog 37 = some ([Go.Value.tuple #[Go.Value.slice none 0 0, Go.Value.int Go.IntKind.i64 (0)]]) := by kernel_rfl
theorem ty38 : tyc Try.prog 38 = some (false, 1) := by kernel_rfl
theorem ze38 : zer Try.prog 38 = some ([Go.Value.nilFunc]) := by kernel_rfl
theorem ty39 : tyc Try.prog 39 = some (false, 1) := by kernel_rfl
theorem ze39 : zer Try.prog 39 = some ([Go.Value.nilFunc]) := by kernel_rfl
theorem ty40 : tyc Try.prog 40 = some (false, 1) := by kernel_rfl
theorem ze40 : zer Try.prog 40 = some ([Go.Value.nilFunc]) := by kernel_rfl
theorem ty41 : tyc Try.prog 41 = some (false, 1) := by kernel_rfl
theorem ze41 : zer Try.prog 41 = some ([Go.Value.nilFunc]) := by kernel_rfl
theorem ty42 : tyc Try.prog 42 = some (false, 1) := by kernel_rfl
theorem ze42 : zer Try.prog 42 = some ([Go.Value.nilFunc]) := by kernel_rfl
theorem ty43 : tyc Try.prog 43 = some (false, 1) := by kernel_rfl
theorem ze43 : zer Try.prog 43 = some ([Go.Value.nilFunc]) := by kernel_rfl
theorem ty44 : tyc Try.prog 44 = some (false, 1) := by kernel_rfl
theorem ze44 : zer Try.prog 44 = some ([Go.Value.nilFunc]) := by kernel_rfl
theorem ty45 : tyc Try.prog 45 = some (false, 1) := by kernel_rfl
theorem ze45 : zer Try.prog 45 = some ([Go.Value.nilFunc]) := by kernel_rfl
theorem ty46 : tyc Try.prog 46 = some (false, 1) := by kernel_rfl
theorem ze46 : zer Try.prog 46 = some ([Go.Value.nilFunc]) := by kernel_rfl
theorem ty47 : tyc Try.prog 47 = some (false, 1) := by kernel_rfl
theorem ze47 : zer Try.prog 47 = some ([Go.Value.nilFunc]) := by kernel_rfl
theorem ty48 : tyc Try.prog 48 = some (false, 1) := by kernel_rfl
theorem ze48 : zer Try.prog 48 = some ([Go.Value.nilFunc]) := by kernel_rfl
theorem ty49 : tyc Try.prog 49 = some (false, 1) := by kernel_rfl
theorem sl49 : slc Try.prog 49 = some (24, 2, 48) := by kernel_rfl
theorem ze49 : zer Try.prog 49 = some ([Go.Value.slice none 0 0]) := by kernel_rfl
theorem ty50 : tyc Try.prog 50 = some (false, 1) := by kernel_rfl
theorem ze50 : zer Try.prog 50 = some ([Go.Value.nilFunc]) := by kernel_rfl
theorem ty51 : tyc Try.prog 51 = some (true, 2) := by kernel_rfl
theorem ze51 : zer Try.prog 51 = some ([Go.Value.bool false, Go.Value.bool false]) := by kernel_rfl
theorem pl51 : plc Try.prog 51 = some ([(0, 1), (1, 1)]) := by kernel_rfl
theorem fl51_0 : fld Try.prog 51 0 = some (0, 1) := by kernel_rfl
theorem fl51_1 : fld Try.prog 51 1 = some (1, 1) := by kernel_rfl
theorem ty52 : tyc Try.prog 52 = some (true, 2) := by kernel_rfl
theorem ze52 : zer Try.prog 52 = some ([Go.Value.bool false, Go.Value.bool false]) := by kernel_rfl
theorem pl52 : plc Try.prog 52 = some ([(0, 1), (1, 1)]) := by kernel_rfl
theorem fl52_0 : fld Try.prog 52 0 = some (0, 1) := by kernel_rfl
theorem fl52_1 : fld Try.prog 52 1 = some (1, 1) := by kernel_rfl
theorem ty53 : tyc Try.prog 53 = some (false, 1) := by kernel_rfl
theorem ze53 : zer Try.prog 53 = some ([Go.Value.nilFunc]) := by kernel_rfl
theorem ty54 : tyc Try.prog 54 = some (false, 1) := by kernel_rfl
theorem ze54 : zer Try.prog 54 = some ([Go.Value.nilFunc]) := by kernel_rfl
theorem ty55 : tyc Try.prog 55 = some (false, 1) := by kernel_rfl
theorem ze55 : zer Try.prog 55 = some ([Go.Value.nilFunc]) := by kernel_rfl
theorem ty56 : tyc Try.prog 56 = some (false, 1) := by kernel_rfl
theorem ze56 : zer Try.prog 56 = some ([Go.Value.nilFunc]) := by kernel_rfl
theorem ty57 : tyc Try.prog 57 = some (false, 1) := by kernel_rfl
theorem ze57 : zer Try.prog 57 = some ([Go.Value.nilFunc]) := by kernel_rfl
theorem ty58 : tyc Try.prog 58 = some (false, 1) := by kernel_rfl
theorem ze58 : zer Try.prog 58 = some ([Go.Value.nilFunc]) := by kernel_rfl
theorem ty59 : tyc Try.prog 59 = some (false, 1) := by kernel_rfl
theorem ze59 : zer Try.prog 59 = some ([Go.Value.nilFunc]) := by kernel_rfl
theorem ty60 : tyc Try.prog 60 = some (false, 1) := by kernel_rfl
theorem ze60 : zer Try.prog 60 = some ([Go.Value.nilFunc]) := by kernel_rfl
theorem ty61 : tyc Try.prog 61 = some (false, 1) := by kernel_rfl
theorem ze61 : zer Try.prog 61 = some ([Go.Value.tuple #[Go.Value.int Go.IntKind.i64 (0), Go.Value.bool false]]) := by kernel_rfl
theorem ty62 : tyc Try.prog 62 = some (false, 1) := by kernel_rfl
theorem ze62 : zer Try.prog 62 = some ([Go.Value.nilFunc]) := by kernel_rfl
theorem ty63 : tyc Try.prog 63 = some (false, 1) := by kernel_rfl
theorem ze63 : zer Try.prog 63 = some ([Go.Value.nilFunc]) := by kernel_rfl
theorem ty64 : tyc Try.prog 64 = some (false, 1) := by kernel_rfl
theorem ze64 : zer Try.prog 64 = some ([Go.Value.nilFunc]) := by kernel_rfl
theorem ty65 : tyc Try.prog 65 = some (false, 1) := by kernel_rfl
theorem sl65 : slc Try.prog 65 = some (22, 1, 24) := by kernel_rfl
theorem ze65 : zer Try.prog 65 = some ([Go.Value.slice none 0 0]) := by kernel_rfl
theorem ty66 : tyc Try.prog 66 = some (false, 1) := by kernel_rfl
theorem ze66 : zer Try.prog 66 = some ([Go.Value.nilFunc]) := by kernel_rfl
theorem ty67 : tyc Try.prog 67 = some (false, 1) := by kernel_rfl
theorem ze67 : zer Try.prog 67 = some ([Go.Value.nilFunc]) := by kernel_rfl
theorem ty68 : tyc Try.prog 68 = some (false, 1) := by kernel_rfl
theorem ze68 : zer Try.prog 68 = some ([Go.Value.int Go.IntKind.u64 (0)]) := by kernel_rfl
theorem ty69 : tyc Try.prog 69 = some (false, 1) := by kernel_rfl
theorem ze69 : zer Try.prog 69 = some ([Go.Value.nilFunc]) := by kernel_rfl
theorem ty70 : tyc Try.prog 70 = some (false, 1) := by kernel_rfl
theorem ze70 : zer Try.prog 70 = some ([Go.Value.nilFunc]) := by kernel_rfl
theorem ty71 : tyc Try.prog 71 = some (false, 1) := by kernel_rfl
theorem ze71 : zer Try.prog 71 = some ([Go.Value.nilFunc]) := by kernel_rfl
theorem ty72 : tyc Try.prog 72 = some (false, 1) := by kernel_rfl
theorem ze72 : zer Try.prog 72 = some ([Go.Value.nilFunc]) := by kernel_rfl
theorem ty73 : tyc Try.prog 73 = some (false, 1) := by kernel_rfl
theorem ze73 : zer Try.prog 73 = some ([Go.Value.int Go.IntKind.i64 (0)]) := by kernel_rfl
theorem ty74 : tyc Try.prog 74 = some (false, 1) := by kernel_rfl
theorem ze74 : zer Try.prog 74 = some ([Go.Value.tuple #[Go.Value.int Go.IntKind.i64 (0), Go.Value.int Go.IntKind.i64 (0)]]) := by kernel_rfl
theorem ty75 : tyc Try.prog 75 = some (false, 1) := by kernel_rfl
theorem ze75 : zer Try.prog 75 = some ([Go.Value.nilFunc]) := by kernel_rfl
theorem ty76 : tyc Try.prog 76 = some (false, 1) := by kernel_rfl
theorem ze76 : zer Try.prog 76 = some ([Go.Value.nilFunc]) := by kernel_rfl
theorem ty77 : tyc Try.prog 77 = some (false, 1) := by kernel_rfl
theorem ze77 : zer Try.prog 77 = some ([Go.Value.nilFunc]) := by kernel_rfl
theorem ty78 : tyc Try.prog 78 = some (false, 1) := by kernel_rfl
theorem ze78 : zer Try.prog 78 = some ([Go.Value.nilFunc]) := by kernel_rfl
theorem ty79 : tyc Try.prog 79 = some (false, 1) := by kernel_rfl
theorem ze79 : zer Try.prog 79 = some ([Go.Value.nilFunc]) := by kernel_rfl
theorem ty80 : tyc Try.prog 80 = some (false, 1) := by kernel_rfl
theorem ze80 : zer Try.prog 80 = some ([Go.Value.int Go.IntKind.u32 (0)]) := by kernel_rfl
theorem ty81 : tyc Try.prog 81 = some (false, 1) := by kernel_rfl
theorem ze81 : zer Try.prog 81 = some ([Go.Value.nilFunc]) := by kernel_rfl
theorem ty82 : tyc Try.prog 82 = some (false, 1) := by kernel_rfl
theorem ze82 : zer Try.prog 82 = some ([Go.Value.int Go.IntKind.u64 (0)]) := by kernel_rfl
theorem ty83 : tyc Try.prog 83 = some (false, 1) := by kernel_rfl
theorem ze83 : zer Try.prog 83 = some ([Go.Value.int Go.IntKind.u64 (0)]) := by kernel_rfl
theorem ty84 : tyc Try.prog 84 = some (false, 1) := by kernel_rfl
theorem ze84 : zer Try.prog 84 = some ([Go.Value.nilFunc]) := by kernel_rfl
theorem ty85 : tyc Try.prog 85 = some (false, 1) := by kernel_rfl
theorem ze85 : zer Try.prog 85 = some ([Go.Value.nilFunc]) := by kernel_rfl
theorem ty86 : tyc Try.prog 86 = some (false, 1) := by kernel_rfl
theorem ze86 : zer Try.prog 86 = some ([Go.Value.nilFunc]) := by kernel_rfl
theorem ty87 : tyc Try.prog 87 = some (false, 1) := by kernel_rfl
theorem ze87 : zer Try.prog 87 = some ([Go.Value.pointer none]) := by kernel_rfl
theorem ty88 : tyc Try.prog 88 = some (false, 1) := by kernel_rfl
theorem ze88 : zer Try.prog 88 = some ([Go.Value.nilFunc]) := by kernel_rfl
theorem ty89 : tyc Try.prog 89 = some (false, 1) := by kernel_rfl
theorem ze89 : zer Try.prog 89 = some ([Go.Value.pointer none]) := by kernel_rfl
theorem ty90 : tyc Try.prog 90 = some (false, 1) := by kernel_rfl
theorem ze90 : zer Try.prog 90 = some ([Go.Value.tuple #[Go.Value.int Go.IntKind.i64 (0), Go.Value.int Go.IntKind.i64 (0)]]) := by kernel_rfl
theorem ty91 : tyc Try.prog 91 = some (false, 1) := by kernel_rfl
theorem ze91 : zer Try.prog 91 = some ([Go.Value.nilFunc]) := by kernel_rfl
theorem ty92 : tyc Try.prog 92 = some (false, 1) := by kernel_rfl
theorem ze92 : zer Try.prog 92 = some ([Go.Value.nilFunc]) := by kernel_rfl
theorem ty93 : tyc Try.prog 93 = some (true, 4) := by kernel_rfl
theorem ze93 : zer Try.prog 93 = some ([Go.Value.pointer none, Go.Value.pointer none, Go.Value.pointer none, Go.Value.string { data := #[] }]) := by kernel_rfl
theorem pl93 : plc Try.prog 93 = some ([(0, 1), (1, 1), (2, 1), (3, 1)]) := by kernel_rfl
theorem fl93_0 : fld Try.prog 93 0 = some (0, 1) := by kernel_rfl
theorem fl93_1 : fld Try.prog 93 1 = some (1, 1) := by kernel_rfl
theorem fl93_2 : fld Try.prog 93 2 = some (2, 1) := by kernel_rfl
theorem fl93_3 : fld Try.prog 93 3 = some (3, 1) := by kernel_rfl
theorem ty94 : tyc Try.prog 94 = some (true, 4) := by kernel_rfl
theorem ze94 : zer Try.prog 94 = some ([Go.Value.pointer none, Go.Value.pointer none, Go.Value.pointer none, Go.Value.string { data := #[] }]) := by kernel_rfl
theorem pl94 : plc Try.prog 94 = some ([(0, 1), (1, 1), (2, 1), (3, 1)]) := by kernel_rfl
theorem fl94_0 : fld Try.prog 94 0 = some (0, 1) := by kernel_rfl
theorem fl94_1 : fld Try.prog 94 1 = some (1, 1) := by kernel_rfl
theorem fl94_2 : fld Try.prog 94 2 = some (2, 1) := by kernel_rfl
theorem fl94_3 : fld Try.prog 94 3 = some (3, 1) := by kernel_rfl
theorem ty95 : tyc Try.prog 95 = some (true, 0) := by kernel_rfl
theorem ze95 : zer Try.prog 95 = some ([]) := by kernel_rfl
theorem ar95 : arr Try.prog 95 = some (0, 16, 1) := by kernel_rfl
theorem ty96 : tyc Try.prog 96 = some (true, 0) := by kernel_rfl
theorem ze96 : zer Try.prog 96 = some ([]) := by kernel_rfl
theorem pl96 : plc Try.prog 96 = some ([(0, 0)]) := by kernel_rfl
theorem fl96_0 : fld Try.prog 96 0 = some (0, 0) := by kernel_rfl
theorem ty97 : tyc Try.prog 97 = some (true, 0) := by kernel_rfl
theorem ze97 : zer Try.prog 97 = some ([]) := by kernel_rfl
theorem pl97 : plc Try.prog 97 = some ([(0, 0)]) := by kernel_rfl
theorem fl97_0 : fld Try.prog 97 0 = some (0, 0) := by kernel_rfl
theorem ty98 : tyc Try.prog 98 = some (false, 1) := by kernel_rfl
theorem ze98 : zer Try.prog 98 = some ([Go.Value.nilFunc]) := by kernel_rfl
theorem ty99 : tyc Try.prog 99 = some (false, 1) := by kernel_rfl
theorem ze99 : zer Try.prog 99 = some ([Go.Value.int Go.IntKind.u8 (0)]) := by kernel_rfl
theorem ty100 : tyc Try.prog 100 = some (false, 1) := by kernel_rfl
theorem ze100 : zer Try.prog 100 = some ([Go.Value.int Go.IntKind.u8 (0)]) := by kernel_rfl
theorem ty101 : tyc Try.prog 101 = some (false, 1) := by kernel_rfl
theorem ze101 : zer Try.prog 101 = some ([Go.Value.nilFunc]) := by kernel_rfl
theorem ty102 : tyc Try.prog 102 = some (false, 1) := by kernel_rfl
theorem ze102 : zer Try.prog 102 = some ([Go.Value.pointer none]) := by kernel_rfl
theorem ty103 : tyc Try.prog 103 = some (false, 1) := by kernel_rfl
theorem ze103 : zer Try.prog 103 = some ([Go.Value.int Go.IntKind.i32 (0)]) := by kernel_rfl
theorem ty104 : tyc Try.prog 104 = some (false, 1) := by kernel_rfl
theorem ze104 : zer Try.prog 104 = some ([Go.Value.int Go.IntKind.i32 (0)]) := by kernel_rfl
theorem ty105 : tyc Try.prog 105 = some (true, 11) := by kernel_rfl
theorem ze105 : zer Try.prog 105 = some ([Go.Value.int Go.IntKind.u64 (0), Go.Value.int Go.IntKind.u64 (0), Go.Value.int Go.IntKind.u32 (0), Go.Value.int Go.IntKind.u8 (0), Go.Value.int Go.IntKind.u8 (0), Go.Value.int Go.IntKind.u8 (0), Go.Value.int Go.IntKind.u8 (0), Go.Value.nilFunc, Go.Value.pointer none, Go.Value.int Go.IntKind.i32 (0), Go.Value.int Go.IntKind.i32 (0)]) := by kernel_rfl
theorem pl105 : plc Try.prog 105 = some ([(0, 1), (1, 1), (2, 1), (3, 1), (4, 1), (5, 1), (6, 1), (7, 1), (8, 1), (9, 1), (10, 1)]) := by kernel_rfl
theorem fl105_0 : fld Try.prog 105 0 = some (0, 1) := by kernel_rfl
theorem fl105_1 : fld Try.prog 105 1 = some (1, 1) := by kernel_rfl
theorem fl105_2 : fld Try.prog 105 2 = some (2, 1) := by kernel_rfl
theorem fl105_3 : fld Try.prog 105 3 = some (3, 1) := by kernel_rfl
theorem fl105_4 : fld Try.prog 105 4 = some (4, 1) := by kernel_rfl
theorem fl105_5 : fld Try.prog 105 5 = some (5, 1) := by kernel_rfl
theorem fl105_6 : fld Try.prog 105 6 = some (6, 1) := by kernel_rfl
theorem fl105_7 : fld Try.prog 105 7 = some (7, 1) := by kernel_rfl
theorem fl105_8 : fld Try.prog 105 8 = some (8, 1) := by kernel_rfl
theorem fl105_9 : fld Try.prog 105 9 = some (9, 1) := by kernel_rfl
theorem fl105_10 : fld Try.prog 105 10 = some (10, 1) := by kernel_rfl
theorem ty106 : tyc Try.prog 106 = some (true, 11) := by kernel_rfl
theorem ze106 : zer Try.prog 106 = some ([Go.Value.int Go.IntKind.u64 (0), Go.Value.int Go.IntKind.u64 (0), Go.Value.int Go.IntKind.u32 (0), Go.Value.int Go.IntKind.u8 (0), Go.Value.int Go.IntKind.u8 (0), Go.Value.int Go.IntKind.u8 (0), Go.Value.int Go.IntKind.u8 (0), Go.Value.nilFunc, Go.Value.pointer none, Go.Value.int Go.IntKind.i32 (0), Go.Value.int Go.IntKind.i32 (0)]) := by kernel_rfl
theorem pl106 : plc Try.prog 106 = some ([(0, 1), (1, 1), (2, 1), (3, 1), (4, 1), (5, 1), (6, 1), (7, 1), (8, 1), (9, 1), (10, 1)]) := by kernel_rfl
theorem fl106_0 : fld Try.prog 106 0 = some (0, 1) := by kernel_rfl
theorem fl106_1 : fld Try.prog 106 1 = some (1, 1) := by kernel_rfl
theorem fl106_2 : fld Try.prog 106 2 = some (2, 1) := by kernel_rfl
theorem fl106_3 : fld Try.prog 106 3 = some (3, 1) := by kernel_rfl
theorem fl106_4 : fld Try.prog 106 4 = some (4, 1) := by kernel_rfl
theorem fl106_5 : fld Try.prog 106 5 = some (5, 1) := by kernel_rfl
theorem fl106_6 : fld Try.prog 106 6 = some (6, 1) := by kernel_rfl
theorem fl106_7 : fld Try.prog 106 7 = some (7, 1) := by kernel_rfl
theorem fl106_8 : fld Try.prog 106 8 = some (8, 1) := by kernel_rfl
theorem fl106_9 : fld Try.prog 106 9 = some (9, 1) := by kernel_rfl
theorem fl106_10 : fld Try.prog 106 10 = some (10, 1) := by kernel_rfl
theorem ty107 : tyc Try.prog 107 = some (false, 1) := by kernel_rfl
theorem ze107 : zer Try.prog 107 = some ([Go.Value.pointer none]) := by kernel_rfl
theorem ca2 : callable Try.prog 2 = true := by kernel_rfl
theorem ca3 : callable Try.prog 3 = true := by kernel_rfl
theorem ca4 : callable Try.prog 4 = true := by kernel_rfl
theorem ca5 : callable Try.prog 5 = true := by kernel_rfl
theorem ca6 : callable Try.prog 6 = true := by kernel_rfl
theorem ca7 : callable Try.prog 7 = true := by kernel_rfl
theorem ca8 : callable Try.prog 8 = true := by kernel_rfl
theorem ca9 : callable Try.prog 9 = true := by kernel_rfl
theorem ca10 : callable Try.prog 10 = true := by kernel_rfl
theorem ca11 : callable Try.prog 11 = true := by kernel_rfl
theorem ca12 : callable Try.prog 12 = true := by kernel_rfl
theorem ca13 : callable Try.prog 13 = true := by kernel_rfl
theorem ca14 : callable Try.prog 14 = true := by kernel_rfl
theorem ca15 : callable Try.prog 15 = true := by kernel_rfl
theorem ca16 : callable Try.prog 16 = true := by kernel_rfl
theorem ca17 : callable Try.prog 17 = true := by kernel_rfl
theorem ca18 : callable Try.prog 18 = true := by kernel_rfl
theorem ca19 : callable Try.prog 19 = true := by kernel_rfl
theorem ca20 : callable Try.prog 20 = true := by kernel_rfl
theorem ca21 : callable Try.prog 21 = true := by kernel_rfl
theorem ca22 : callable Try.prog 22 = true := by kernel_rfl
theorem ca23 : callable Try.prog 23 = true := by kernel_rfl
theorem ca24 : callable Try.prog 24 = true := by kernel_rfl
theorem ca25 : callable Try.prog 25 = true := by kernel_rfl
theorem ca26 : callable Try.prog 26 = true := by kernel_rfl
theorem ca27 : callable Try.prog 27 = true := by kernel_rfl
theorem ca28 : callable Try.prog 28 = true := by kernel_rfl
theorem ca29 : callable Try.prog 29 = true := by kernel_rfl
theorem ca30 : callable Try.prog 30 = true := by kernel_rfl
theorem ca31 : callable Try.prog 31 = true := by kernel_rfl
theorem ca32 : callable Try.prog 32 = true := by kernel_rfl
theorem ca33 : callable Try.prog 33 = true := by kernel_rfl
theorem ca34 : callable Try.prog 34 = true := by kernel_rfl
theorem ca35 : callable Try.prog 35 = true := by kernel_rfl
theorem ca36 : callable Try.prog 36 = true := by kernel_rfl
theorem ca37 : callable Try.prog 37 = true := by kernel_rfl
theorem ca38 : callable Try.prog 38 = true := by kernel_rfl
theorem ca39 : callable Try.prog 39 = true := by kernel_rfl
theorem ca40 : callable Try.prog 40 = true := by kernel_rfl
theorem ca41 : callable Try.prog 41 = true := by kernel_rfl
theorem ca42 : callable Try.prog 42 = true := by kernel_rfl
theorem ca43 : callable Try.prog 43 = true := by kernel_rfl
theorem ca44 : callable Try.prog 44 = true := by kernel_rfl
theorem ca45 : callable Try.prog 45 = true := by kernel_rfl
theorem ca46 : callable Try.prog 46 = true := by kernel_rfl
theorem ca47 : callable Try.prog 47 = true := by kernel_rfl
theorem ca48 : callable Try.prog 48 = true := by kernel_rfl
theorem ca49 : callable Try.prog 49 = true := by kernel_rfl
theorem ca50 : callable Try.prog 50 = true := by kernel_rfl
theorem ca51 : callable Try.prog 51 = true := by kernel_rfl
theorem ca52 : callable Try.prog 52 = true := by kernel_rfl
theorem ca53 : callable Try.prog 53 = true := by kernel_rfl
theorem ca54 : callable Try.prog 54 = true := by kernel_rfl
theorem ca55 : callable Try.prog 55 = true := by kernel_rfl
theorem ca56 : callable Try.prog 56 = true := by kernel_rfl
theorem ca57 : callable Try.prog 57 = true := by kernel_rfl
theorem ca58 : callable Try.prog 58 = true := by kernel_rfl
theorem ca59 : callable Try.prog 59 = true := by kernel_rfl
theorem ca60 : callable Try.prog 60 = true := by kernel_rfl
theorem ca61 : callable Try.prog 61 = true := by kernel_rfl
theorem ca63 : callable Try.prog 63 = true := by kernel_rfl
theorem ca64 : callable Try.prog 64 = true := by kernel_rfl
theorem ca65 : callable Try.prog 65 = true := by kernel_rfl
theorem ca66 : callable Try.prog 66 = true := by kernel_rfl
theorem ca67 : callable Try.prog 67 = true := by kernel_rfl
theorem ca68 : callable Try.prog 68 = true := by kernel_rfl
theorem ca69 : callable Try.prog 69 = true := by kernel_rfl
theorem ca70 : callable Try.prog 70 = true := by kernel_rfl
theorem ca71 : callable Try.prog 71 = true := by kernel_rfl
theorem ca72 : callable Try.prog 72 = true := by kernel_rfl
theorem ca73 : callable Try.prog 73 = true := by kernel_rfl
theorem ca74 : callable Try.prog 74 = true := by kernel_rfl
theorem ca75 : callable Try.prog 75 = true := by kernel_rfl
theorem ca76 : callable Try.prog 76 = true := by kernel_rfl
theorem ca77 : callable Try.prog 77 = true := by kernel_rfl
theorem ca78 : callable Try.prog 78 = true := by kernel_rfl
theorem ca79 : callable Try.prog 79 = true := by kernel_rfl
theorem ca80 : callable Try.prog 80 = true := by kernel_rfl
theorem ca81 : callable Try.prog 81 = true := by kernel_rfl
theorem ca82 : callable Try.prog 82 = true := by kernel_rfl
end Go.Lw
