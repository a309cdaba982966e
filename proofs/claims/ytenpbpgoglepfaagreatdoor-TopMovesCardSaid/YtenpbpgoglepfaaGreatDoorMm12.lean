/- Entries: TopMoves, data (printed by ev/py). No condition. -/
import Derived.Test.YtenpbpgoglepfaaGreatDoorMm11
namespace Go.Proofs.YtenpbpgoglepfaaGreatDoor
open Go.RowKit
set_option linter.unusedVariables false
set_option maxRecDepth 100000
noncomputable def mg0 : GB := (.rw (.c1 (.mk (n64 1) (.m 38) (.p 35 0) (.p 40 0) (.p 42 0) (.p 45 0) (.m 46) (n64 0) (.p 49 0) (.p 50 0) (.m 51) (n64 0) (.p 52 0) (n64 0) (n64 0) (n64 0))))
noncomputable def mg1 : GB := (.rw (Cs.putL (L [(.p 53 0), (n64 16384), (.s 83 0 1 1 1 false)]) 0 (Cs.mk 3)))
noncomputable def mg2 : GB := (.mp (L [(n64 1), (.s 86 0 1 4096 4096 true)]))
noncomputable def mg3 : GB := (.rw (Cs.putL (L [(.m 75)]) 0 (Cs.mk 1)))
noncomputable def mg4 : GB := (.rw (Cs.putL (L [(.p 74 0), (.m 66), (.m 67), (.p 76 0), (.p 77 0), .ns]) 0 (Cs.mk 6)))
noncomputable def mg5 : GB := (.rw (Cs.putL (L [(.p 79 0), (.p 80 0), (.s 2212 0 1 200 200 false), (.b true)]) 0 (Cs.mk 4)))
noncomputable def mg6 : GB := (.rw (Cs.putL (L [(.p 81 0)]) 0 (Cs.mk 1)))
noncomputable def mg7 : GB := (.rw (.c3 (F.all (F.all (F.all (n8 0))))))
noncomputable def mg8 : GB := (.rw (.c3 (.mk (F.all (.mk (n8 1) (n8 0) (n8 0) (n8 255) (n8 1) (n8 0) (n8 0) (n8 255) (n8 1) (n8 0) (n8 0) (n8 255) (n8 1) (n8 0) (n8 0) (n8 255))) (F.all (F.all (n8 0))) (F.all (F.all (n8 0))) (F.all (F.all (n8 0))) (F.all (F.all (n8 0))) (F.all (F.all (n8 0))) (F.all (F.all (n8 0))) (F.all (F.all (n8 0))) (F.all (F.all (n8 0))) (F.all (F.all (n8 0))) (F.all (F.all (n8 0))) (F.all (F.all (n8 0))) (F.all (F.all (n8 0))) (F.all (F.all (n8 0))) (F.all (F.all (n8 0))) (F.all (F.all (n8 0))))))
/-- tableau/tableautop.paint -/
noncomputable def me7a : AV := (L [(.p 54 0), (n64 1), (n64 0), (n64 64), (n32 4278190081)])
noncomputable def me7u : BL := [(38, (.mp (L [(n64 1), (.p 78 0)]))), (53, mg0), (54, mg1), (75, mg2), (76, mg3), (78, mg4), (81, mg5), (83, mg6)]
noncomputable def me7c : BL := [(86, mg7)]
noncomputable def me7l : BL := [(86, mg8)]
noncomputable def me7v : AV := (.b true)
noncomputable def me7 : Ent := .lo me7a 2213 me7u me7c me7v me7l
/-- tableau/tableaulaw00.Window -/
noncomputable def me8a : AV := (L [(n64 10)])
noncomputable def me8u : BL := []
noncomputable def me8c : BL := []
noncomputable def me8l : BL := []
noncomputable def me8v : AV := (.str [3, 0, 0, 0, 0, 0, 12, 0, 10, 0, 0, 0, 7, 0, 0, 0, 1, 0, 16, 0, 11, 0, 0, 0, 10, 0, 0, 0, 11, 0, 0, 0, 1, 0, 12, 0, 12, 0, 0, 0, 10, 0, 0, 0, 5, 0, 8, 0])
noncomputable def me8 : Ent := .lo me8a 34 me8u me8c me8v me8l
noncomputable def mg9 : GB := (.ro (Cs.putL (L [(.ifc 465 (.p 18 0))]) 0 (Cs.mk 1)))
noncomputable def mg10 : GB := (.rw (Cs.putL (L [(.m 39)]) 0 (Cs.mk 1)))
noncomputable def mg11 : GB := (.rw (Cs.putL (L [(.m 73)]) 0 (Cs.mk 1)))
noncomputable def mg12 : GB := (.rw (Cs.putL (L [(.m 2206), (.m 48)]) 0 (Cs.mk 2)))
noncomputable def mg13 : GB := (.mp (L [(n64 1), (.agg (L [(n64 1), (n64 1)])), (n64 2), (.agg (L [(n64 2), (n64 1)])), (n64 3), (.agg (L [(n64 4), (n64 1)])), (n64 4), (.agg (L [(n64 5), (n64 1)])), (n64 5), (.agg (L [(n64 10), (n64 1)])), (n64 6), (.agg (L [(n64 12), (n64 1)])), (n64 7), (.agg (L [(n64 15), (n64 1)])), (n64 8), (.agg (L [(n64 6), (n64 1)]))]))
noncomputable def mg14 : GB := (.rw (Cs.putL (L [(.m 2357), (.m 48)]) 0 (Cs.mk 2)))
noncomputable def mg15 : GB := (.mp (L [(n64 1), (.agg (L [(n64 1), (n64 1)])), (n64 2), (.agg (L [(n64 2), (n64 1)])), (n64 3), (.agg (L [(n64 4), (n64 1)])), (n64 4), (.agg (L [(n64 5), (n64 1)])), (n64 5), (.agg (L [(n64 10), (n64 1)])), (n64 6), (.agg (L [(n64 12), (n64 1)])), (n64 7), (.agg (L [(n64 15), (n64 1)])), (n64 8), (.agg (L [(n64 6), (n64 1)])), (n64 10), (.agg (L [(n64 8), (n64 1)]))]))
noncomputable def mg16 : GB := (.rw (Cs.putL (L [(n64 0)]) 0 (Cs.mk 1)))
noncomputable def mg17 : GB := (.rw (.c2 (.mk (.mk (n64 1010) (n64 0) (.b false) (.b false) (n64 0) .ns .ns (.b false) (.b false) .ns (.b false) .ns .ns (.b false) (n64 0) .ns) (.mk .ns (.b false) (.b false) .ns (.b false) .ns .ns (.b false) (n64 0) .ns .ns (.b false) (.b true) .ns (.b false) (.s 2319 0 1 1 1 true)) (.mk .ns .u .u .u .u .u .u .u .u .u .u .u .u .u .u .u) (F.all .u) (F.all .u) (F.all .u) (F.all .u) (F.all .u) (F.all .u) (F.all .u) (F.all .u) (F.all .u) (F.all .u) (F.all .u) (F.all .u) (F.all .u))))
/-- (*tableau/desk.Desk).Handle -/
noncomputable def me9a : AV := (L [(.p 53 0), (n64 1), (.agg (L [(n64 3), (n64 0), (.str [10, 0, 0, 0])]))])
noncomputable def me9u : BL := [(1, mg9), (38, (.mp (L [(n64 1), (.p 78 0)]))), (40, mg10), (53, mg0), (74, mg11), (78, mg4), (2206, (.mp .nil))]
noncomputable def me9c : BL := [(39, (.mp .nil)), (49, mg12), (73, mg13)]
noncomputable def me9l : BL := [(39, (.mp (L [(n64 1010), (.p 2320 0)]))), (49, mg14), (73, mg15), (2319, mg16), (2320, mg17), (2357, (.mp .nil))]
noncomputable def me9v : AV := .ni
noncomputable def me9 : Ent := .mk me9a 2231 me9u me9c me9v 2361 me9l
noncomputable def mg18 : GB := (.rw (.c1 (.mk (.p 53 0) (.p 78 0) (n64 1) (n64 7) (n64 15) (n64 1) (n64 1) (n64 11) (.s 2424 0 1 2 2 false) (.str []) .u .u .u .u .u .u)))
/-- (*tableau/desk.request).coming -/
noncomputable def me10a : AV := (L [(.p 2418 0), (n64 1010)])
noncomputable def me10u : BL := [(39, (.mp (L [(n64 1010), (.p 2320 0)]))), (40, mg10), (53, mg0), (2319, mg16), (2320, mg17), (2418, mg18)]
noncomputable def me10c : BL := []
noncomputable def me10l : BL := []
noncomputable def me10v : AV := (.tup (L [(.b false), (n64 0)]))
noncomputable def me10 : Ent := .lo me10a 2425 me10u me10c me10v me10l
noncomputable def mg19 : GB := (.rw (Cs.putL (L [(.m 41)]) 0 (Cs.mk 1)))
noncomputable def mg20 : GB := (.rw (Cs.putL (L [(.m 2547), (.m 48)]) 0 (Cs.mk 2)))
noncomputable def mg21 : GB := (.mp (L [(n64 8), (n64 1), (n64 11), (n64 1010)]))
noncomputable def mg22 : GB := (.mp (L [(n64 1), (.agg (L [(n64 1), (n64 1)])), (n64 2), (.agg (L [(n64 2), (n64 1)])), (n64 3), (.agg (L [(n64 4), (n64 1)])), (n64 4), (.agg (L [(n64 5), (n64 1)])), (n64 5), (.agg (L [(n64 10), (n64 1)])), (n64 6), (.agg (L [(n64 12), (n64 1)])), (n64 7), (.agg (L [(n64 15), (n64 1)])), (n64 8), (.agg (L [(n64 6), (n64 1)])), (n64 10), (.agg (L [(n64 8), (n64 1)])), (n64 11), (.agg (L [(n64 16), (n64 1)]))]))
noncomputable def mg23 : GB := (.rw (Cs.putL (L [(n64 0), .ns]) 0 (Cs.mk 2)))
/-- (*tableau/desk.Desk).Handle -/
noncomputable def me11a : AV := (L [(.p 53 0), (n64 1), (.agg (L [(n64 7), (n64 1), (.str [11, 0, 0, 0, 10, 0, 0, 0])]))])
noncomputable def me11u : BL := [(1, mg9), (38, (.mp (L [(n64 1), (.p 78 0)]))), (39, (.mp (L [(n64 1010), (.p 2320 0)]))), (40, mg10), (42, mg19), (53, mg0), (74, mg11), (78, mg4), (2319, mg16), (2320, mg17), (2357, (.mp .nil))]
noncomputable def me11c : BL := [(41, (.mp .nil)), (49, mg14), (66, (.mp (L [(n64 8), (n64 1)]))), (73, mg15)]
noncomputable def me11l : BL := [(41, (.mp (L [(n64 1010), (.p 2510 0)]))), (49, mg20), (66, mg21), (73, mg22), (2510, mg23), (2547, (.mp .nil))]
noncomputable def me11v : AV := .ni
noncomputable def me11 : Ent := .mk me11a 2362 me11u me11c me11v 2551 me11l
noncomputable def mg24 : GB := (.rw (Cs.putL (L [(.m 2675), (.m 48)]) 0 (Cs.mk 2)))
noncomputable def mg25 : GB := (.mp (L [(n64 8), (n64 1), (n64 11), (n64 1010), (n64 12), (n64 1010)]))
noncomputable def mg26 : GB := (.mp (L [(n64 1), (.agg (L [(n64 1), (n64 1)])), (n64 2), (.agg (L [(n64 2), (n64 1)])), (n64 3), (.agg (L [(n64 4), (n64 1)])), (n64 4), (.agg (L [(n64 5), (n64 1)])), (n64 5), (.agg (L [(n64 10), (n64 1)])), (n64 6), (.agg (L [(n64 12), (n64 1)])), (n64 7), (.agg (L [(n64 15), (n64 1)])), (n64 8), (.agg (L [(n64 6), (n64 1)])), (n64 10), (.agg (L [(n64 8), (n64 1)])), (n64 11), (.agg (L [(n64 16), (n64 1)])), (n64 12), (.agg (L [(n64 17), (n64 1)]))]))
noncomputable def mg27 : GB := (.rw (Cs.putL (L [(n64 1), .ns]) 0 (Cs.mk 2)))
/-- (*tableau/desk.Desk).Handle -/
noncomputable def me12a : AV := (L [(.p 53 0), (n64 1), (.agg (L [(n64 11), (n64 1), (.str [12, 0, 0, 0])]))])
noncomputable def me12u : BL := [(1, mg9), (38, (.mp (L [(n64 1), (.p 78 0)]))), (39, (.mp (L [(n64 1010), (.p 2320 0)]))), (40, mg10), (41, (.mp (L [(n64 1010), (.p 2510 0)]))), (42, mg19), (53, mg0), (74, mg11), (78, mg4), (2320, mg17), (2547, (.mp .nil))]
noncomputable def me12c : BL := [(49, mg20), (66, mg21), (73, mg22), (2510, mg23)]
noncomputable def me12l : BL := [(49, mg24), (66, mg25), (73, mg26), (2510, mg27), (2675, (.mp .nil))]
noncomputable def me12v : AV := .ni
noncomputable def me12 : Ent := .mk me12a 2552 me12u me12c me12v 2679 me12l
noncomputable def mg28 : GB := (.rw (.c1 (.mk (.p 53 0) (.p 78 0) (n64 1) (n64 10) (n64 8) (n64 5) (n64 1) (n64 0) .ns (.str []) .u .u .u .u .u .u)))
/-- (*tableau/desk.request).coming -/
noncomputable def me13a : AV := (L [(.p 2720 0), (n64 1010)])
noncomputable def me13u : BL := [(39, (.mp (L [(n64 1010), (.p 2320 0)]))), (40, mg10), (53, mg0), (2319, mg16), (2320, mg17), (2720, mg28)]
noncomputable def me13c : BL := []
noncomputable def me13l : BL := []
noncomputable def me13v : AV := (.tup (L [(.b false), (n64 0)]))
noncomputable def me13 : Ent := .lo me13a 2721 me13u me13c me13v me13l
noncomputable def mg29 : GB := (.rw (.c2 (.mk (.mk (n64 1010) (n64 0) (.b false) (.b false) (n64 0) .ns .ns (.b false) (.b false) .ns (.b false) .ns .ns (.b false) (n64 0) .ns) (.mk .ns (.b false) (.b false) .ns (.b false) .ns .ns (.b false) (n64 0) .ns .ns (.b false) (.b true) .ns (.b false) (.s 2847 0 1 1 1 false)) (.mk .ns .u .u .u .u .u .u .u .u .u .u .u .u .u .u .u) (F.all .u) (F.all .u) (F.all .u) (F.all .u) (F.all .u) (F.all .u) (F.all .u) (F.all .u) (F.all .u) (F.all .u) (F.all .u) (F.all .u) (F.all .u))))
noncomputable def mg30 : GB := (.rw (Cs.putL (L [(n64 1010)]) 0 (Cs.mk 1)))
/-- (*tableau/forest.Forest).Commit -/
noncomputable def me14a : AV := (L [(.p 40 0), (n64 1010)])
noncomputable def me14u : BL := [(39, (.mp (L [(n64 1010), (.p 2320 0)]))), (40, mg10), (2319, mg16)]
noncomputable def me14c : BL := [(2320, mg17)]
noncomputable def me14l : BL := [(2320, mg29), (2801, mg30), (2847, mg16)]
noncomputable def me14v : AV := (.tup (L [(.s 2801 0 1 1 1 false), .ni]))
noncomputable def me14 : Ent := .mk me14a 2754 me14u me14c me14v 2850 me14l
noncomputable def mg31 : GB := (.rw (.c1 (.mk (n64 1) (.m 38) (.p 35 0) (.p 40 0) (.p 42 0) (.p 45 0) (.m 46) (n64 0) (.p 49 0) (.p 50 0) (.m 51) (n64 0) (.p 52 0) (n64 1) (n64 0) (n64 0))))
noncomputable def mg32 : GB := (.rw (Cs.putL (L [(.p 74 0), (.m 66), (.m 67), (.p 76 0), (.p 77 0), (.s 2866 0 4 2 2 false)]) 0 (Cs.mk 6)))
noncomputable def mg33 : GB := (.rw (Cs.putL (L [(n64 2), (.s 2868 0 1 1 1 false)]) 0 (Cs.mk 2)))
noncomputable def mg34 : GB := (.rw (Cs.putL (L [(n8 105), (n64 0), (.str []), (n8 105), (n64 0), (.str [])]) 0 (Cs.mk 6)))
noncomputable def mg35 : GB := (.rw (Cs.putL (L [(n8 117), (n64 1), (.str [])]) 0 (Cs.mk 3)))
noncomputable def mg36 : GB := (.rw (Cs.putL (L [(n64 17), (n64 12), (n64 0), (.s 2856 0 3 2 2 true), (n64 16), (n64 11), (n64 0), (.s 2864 0 3 1 1 true)]) 0 (Cs.mk 8)))
noncomputable def mg37 : GB := (.rw (Cs.putL (L [(n64 1)]) 0 (Cs.mk 1)))
/-- (*tableau/desk.request).commit -/
noncomputable def me15a : AV := (L [(.p 2720 0), (n64 1010)])
noncomputable def me15u : BL := [(38, (.mp (L [(n64 1), (.p 78 0)]))), (39, (.mp (L [(n64 1010), (.p 2320 0)]))), (40, mg10), (41, (.mp (L [(n64 1010), (.p 2510 0)]))), (42, mg19), (66, mg25), (73, mg26), (74, mg11), (2319, mg16), (2720, mg28)]
noncomputable def me15c : BL := [(53, mg0), (78, mg4), (2320, mg17), (2510, mg27)]
noncomputable def me15l : BL := [(53, mg31), (78, mg32), (2320, mg29), (2510, mg33), (2847, mg16), (2856, mg34), (2864, mg35), (2866, mg36), (2868, mg37)]
noncomputable def me15v : AV := .ni
noncomputable def me15 : Ent := .mk me15a 2754 me15u me15c me15v 2869 me15l
noncomputable def mg38 : GB := (.ro (Cs.putL (L [(.ifc 465 (.p 31 0))]) 0 (Cs.mk 1)))
noncomputable def mg39 : GB := (.rw (Cs.putL (L [(n64 16384), (.s 1859 0 1 0 0 false), (.b false)]) 0 (Cs.mk 3)))
noncomputable def mg40 : GB := (.rw (Cs.putL (L [(n64 16384), (.s 3005 0 1 28 28 false), (.b false)]) 0 (Cs.mk 3)))
noncomputable def mg41 : GB := (.rw (.c2 (.mk (.mk (n8 12) (n8 0) (n8 0) (n8 0) (n8 0) (n8 0) (n8 16) (n8 0) (n8 0) (n8 0) (n8 0) (n8 0) (n8 0) (n8 0) (n8 0) (n8 0)) (.mk (n8 11) (n8 0) (n8 0) (n8 0) (n8 0) (n8 0) (n8 12) (n8 0) (n8 1) (n8 0) (n8 0) (n8 0) .u .u .u .u) (F.all .u) (F.all .u) (F.all .u) (F.all .u) (F.all .u) (F.all .u) (F.all .u) (F.all .u) (F.all .u) (F.all .u) (F.all .u) (F.all .u) (F.all .u) (F.all .u))))
/-- (*tableau/server.Server).flush -/
noncomputable def me16a : AV := (L [(.p 54 0)])
noncomputable def me16u : BL := [(2, mg38), (38, (.mp (L [(n64 1), (.p 78 0)]))), (53, mg31), (54, mg1), (81, mg5), (83, mg6), (2856, mg34), (2864, mg35), (2866, mg36)]
noncomputable def me16c : BL := [(78, mg32), (80, mg39)]
noncomputable def me16l : BL := [(78, mg4), (80, mg40), (3005, mg41)]
noncomputable def me16v : AV := (.tup .nil)
noncomputable def me16 : Ent := .mk me16a 2909 me16u me16c me16v 3006 me16l
noncomputable def mg42 : GB := (.ro (Cs.putL (L [(.ifc 465 (.p 19 0))]) 0 (Cs.mk 1)))
noncomputable def mg43 : GB := (.ro (Cs.putL (L [(.str [115, 104, 111, 114, 116])]) 0 (Cs.mk 1)))
noncomputable def mg44 : GB := (.rw (.c2 (.mk (.mk (n8 3) (n8 0) (n8 0) (n8 0) (n8 0) (n8 0) (n8 12) (n8 0) (n8 10) (n8 0) (n8 0) (n8 0) (n8 7) (n8 0) (n8 0) (n8 0)) (.mk (n8 1) (n8 0) (n8 16) (n8 0) (n8 11) (n8 0) (n8 0) (n8 0) (n8 10) (n8 0) (n8 0) (n8 0) (n8 11) (n8 0) (n8 0) (n8 0)) (.mk (n8 1) (n8 0) (n8 12) (n8 0) (n8 12) (n8 0) (n8 0) (n8 0) (n8 10) (n8 0) (n8 0) (n8 0) (n8 5) (n8 0) (n8 8) (n8 0)) (F.all .u) (F.all .u) (F.all .u) (F.all .u) (F.all .u) (F.all .u) (F.all .u) (F.all .u) (F.all .u) (F.all .u) (F.all .u) (F.all .u) (F.all .u))))
noncomputable def mg45 : GB := (.rw (Cs.putL (L [(.s 277 196 1 0 0 true), .ni]) 0 (Cs.mk 2)))
noncomputable def mg46 : GB := (.rw (Cs.putL (L [(.m 2905), (.m 48)]) 0 (Cs.mk 2)))
noncomputable def mg47 : GB := (.rw (Cs.putL (L [(.s 2221 40 1 0 0 true), .ni]) 0 (Cs.mk 2)))
/-- (*tableau/server.Server).feed -/
noncomputable def me17a : AV := (L [(.p 54 0), (n64 1), (.s 2220 0 1 48 48 false)])
noncomputable def me17u : BL := [(1, mg9), (2, mg38), (3, mg42), (19, mg43), (38, (.mp (L [(n64 1), (.p 78 0)]))), (40, mg10), (42, mg19), (54, mg1), (74, mg11), (78, mg4), (81, mg5), (83, mg6), (2206, (.mp .nil)), (2220, mg44)]
noncomputable def me17c : BL := [(39, (.mp .nil)), (41, (.mp .nil)), (49, mg12), (53, mg0), (66, (.mp (L [(n64 8), (n64 1)]))), (73, mg13), (79, mg45), (80, mg39)]
noncomputable def me17l : BL := [(39, (.mp (L [(n64 1010), (.p 2320 0)]))), (41, (.mp (L [(n64 1010), (.p 2510 0)]))), (49, mg46), (53, mg31), (66, mg25), (73, mg26), (79, mg47), (80, mg40), (2221, mg44), (2320, mg29), (2510, mg33), (2847, mg16), (2868, mg37), (2905, (.mp .nil)), (3005, mg41)]
noncomputable def me17v : AV := (.tup .nil)
noncomputable def me17 : Ent := .mk me17a 2221 me17u me17c me17v 3006 me17l
/-- tableau/tableaulaw00.Show -/
noncomputable def me18a : AV := (L [(n64 10), (n64 1), (n64 13), (n64 0), (n64 8), (n64 8)])
noncomputable def me18u : BL := []
noncomputable def me18c : BL := []
noncomputable def me18l : BL := []
noncomputable def me18v : AV := (.str [11, 0, 0, 0, 2, 0, 12, 0, 1, 0, 0, 0, 8, 0, 0, 0, 0, 0, 32, 0, 13, 0, 0, 0, 0, 0, 0, 0, 8, 0, 0, 0, 8, 0, 0, 0, 32, 0, 0, 0, 0, 0, 0, 0, 10, 0, 0, 0, 1, 0, 20, 0, 13, 0, 0, 0, 0, 0, 0, 0, 0, 0, 0, 0, 10, 0, 0, 0, 5, 0, 8, 0])
noncomputable def me18 : Ent := .lo me18a 34 me18u me18c me18v me18l
noncomputable def mg48 : GB := (.rw (Cs.putL (L [(.m 3148), (.m 48)]) 0 (Cs.mk 2)))
noncomputable def mg49 : GB := (.rw (Cs.putL (L [(n64 3), (.s 3111 0 1 0 0 true)]) 0 (Cs.mk 2)))
/-- (*tableau/desk.Desk).Handle -/
noncomputable def me19a : AV := (L [(.p 53 0), (n64 1), (.agg (L [(n64 11), (n64 2), (.str [1, 0, 0, 0])]))])
noncomputable def me19u : BL := [(1, mg9), (38, (.mp (L [(n64 1), (.p 78 0)]))), (39, (.mp (L [(n64 1010), (.p 2320 0)]))), (40, mg10), (41, (.mp (L [(n64 1010), (.p 2510 0)]))), (42, mg19), (53, mg31), (66, mg25), (73, mg26), (74, mg11), (78, mg4), (2320, mg29), (2868, mg37), (2905, (.mp .nil))]
noncomputable def me19c : BL := [(49, mg46), (2510, mg33)]
noncomputable def me19l : BL := [(49, mg48), (2510, mg49), (3111, (.rw (.c1 (F.all .u)))), (3148, (.mp .nil))]
noncomputable def me19v : AV := .ni
noncomputable def me19 : Ent := .mk me19a 3026 me19u me19c me19v 3152 me19l
noncomputable def mg50 : GB := (.rw (.c2 (.mk (.mk (n8 110) (n64 13) (.str []) (n8 105) (n64 0) (.str []) (n8 105) (n64 8) (.str []) (n8 105) (n64 8) (.str []) (n8 105) (n64 32) (.str []) (n8 117)) (.mk (n64 0) (.str []) .u .u .u .u .u .u .u .u .u .u .u .u .u .u) (F.all .u) (F.all .u) (F.all .u) (F.all .u) (F.all .u) (F.all .u) (F.all .u) (F.all .u) (F.all .u) (F.all .u) (F.all .u) (F.all .u) (F.all .u) (F.all .u))))
/-- tableau/wire.Get -/
noncomputable def me20a : AV := (L [(.agg (L [(n64 8), (n64 0), (.str [13, 0, 0, 0, 0, 0, 0, 0, 8, 0, 0, 0, 8, 0, 0, 0, 32, 0, 0, 0, 0, 0, 0, 0])])), (.str [110, 105, 105, 105, 105, 117])])
noncomputable def me20u : BL := [(1, mg9)]
noncomputable def me20c : BL := []
noncomputable def me20l : BL := [(3226, mg50)]
noncomputable def me20v : AV := (.tup (L [(.agg (L [(n64 8), (n64 0), (.s 3226 0 3 6 6 false)])), .ni]))
noncomputable def me20 : Ent := .mk me20a 3187 me20u me20c me20v 3240 me20l
noncomputable def mg51 : GB := (.mp (L [(n64 1008), (.agg (L [(n64 1), (n64 4096)]))]))
noncomputable def mg52 : GB := (.rw (Cs.putL (L [(.m 43), (.m 44)]) 0 (Cs.mk 2)))
noncomputable def mg53 : GB := (.mp (L [(n64 1), (.agg (L [(n64 1), (n64 0), (n64 8), (n64 8), (n64 32), (n64 0), (.b true)]))]))
noncomputable def mg54 : GB := (.rw (Cs.putL (L [(.m 3333), (.m 48)]) 0 (Cs.mk 2)))
noncomputable def mg55 : GB := (.rw (.c1 (.mk (n64 1) (.m 38) (.p 35 0) (.p 40 0) (.p 42 0) (.p 45 0) (.m 46) (n64 1) (.p 49 0) (.p 50 0) (.m 51) (n64 0) (.p 52 0) (n64 1) (n64 0) (n64 0))))
noncomputable def mg56 : GB := (.mp (L [(n64 8), (n64 1), (n64 11), (n64 1010), (n64 12), (n64 1010), (n64 13), (n64 1)]))
noncomputable def mg57 : GB := (.mp (L [(n64 1), (.agg (L [(n64 1), (n64 1)])), (n64 2), (.agg (L [(n64 2), (n64 1)])), (n64 3), (.agg (L [(n64 4), (n64 1)])), (n64 4), (.agg (L [(n64 5), (n64 1)])), (n64 5), (.agg (L [(n64 10), (n64 1)])), (n64 6), (.agg (L [(n64 12), (n64 1)])), (n64 7), (.agg (L [(n64 15), (n64 1)])), (n64 8), (.agg (L [(n64 6), (n64 1)])), (n64 10), (.agg (L [(n64 8), (n64 1)])), (n64 11), (.agg (L [(n64 16), (n64 1)])), (n64 12), (.agg (L [(n64 17), (n64 1)])), (n64 13), (.agg (L [(n64 7), (n64 1)]))]))
/-- (*tableau/desk.Desk).Handle -/
noncomputable def me21a : AV := (L [(.p 53 0), (n64 1), (.agg (L [(n64 8), (n64 0), (.str [13, 0, 0, 0, 0, 0, 0, 0, 8, 0, 0, 0, 8, 0, 0, 0, 32, 0, 0, 0, 0, 0, 0, 0])]))])
noncomputable def me21u : BL := [(1, mg9), (38, (.mp (L [(n64 1), (.p 78 0)]))), (39, (.mp (L [(n64 1010), (.p 2320 0)]))), (40, mg10), (43, mg51), (45, mg52), (74, mg11), (78, mg4), (2320, mg29), (3148, (.mp .nil))]
noncomputable def me21c : BL := [(44, (.mp .nil)), (46, (.mp .nil)), (49, mg48), (53, mg31), (66, mg25), (73, mg26)]
noncomputable def me21l : BL := [(44, mg53), (46, (.mp (L [(n64 1), (n64 1013)]))), (49, mg54), (53, mg55), (66, mg56), (73, mg57), (3333, (.mp .nil))]
noncomputable def me21v : AV := .ni
noncomputable def me21 : Ent := .mk me21a 3153 me21u me21c me21v 3337 me21l
noncomputable def mg58 : GB := (.rw (Cs.putL (L [(.m 3483), (.m 48)]) 0 (Cs.mk 2)))
noncomputable def mg59 : GB := (.rw (.c2 (.mk (.mk (n64 1010) (n64 0) (.b false) (.b true) (n64 1) .ns .ns (.b false) (.b false) .ns (.b false) .ns .ns (.b false) (n64 0) .ns) (.mk .ns (.b false) (.b false) .ns (.b false) .ns .ns (.b false) (n64 0) .ns .ns (.b false) (.b true) .ns (.b false) (.s 2847 0 1 1 1 false)) (.mk .ns .u .u .u .u .u .u .u .u .u .u .u .u .u .u .u) (F.all .u) (F.all .u) (F.all .u) (F.all .u) (F.all .u) (F.all .u) (F.all .u) (F.all .u) (F.all .u) (F.all .u) (F.all .u) (F.all .u) (F.all .u))))
/-- (*tableau/desk.Desk).Handle -/
noncomputable def me22a : AV := (L [(.p 53 0), (n64 1), (.agg (L [(n64 10), (n64 1), (.str [13, 0, 0, 0, 0, 0, 0, 0, 0, 0, 0, 0])]))])
noncomputable def me22u : BL := [(1, mg9), (38, (.mp (L [(n64 1), (.p 78 0)]))), (39, (.mp (L [(n64 1010), (.p 2320 0)]))), (40, mg10), (53, mg55), (66, mg56), (73, mg57), (74, mg11), (78, mg4), (3333, (.mp .nil))]
noncomputable def me22c : BL := [(49, mg54), (2320, mg29)]
noncomputable def me22l : BL := [(49, mg58), (2320, mg59), (3483, (.mp .nil))]
noncomputable def me22v : AV := .ni
noncomputable def me22 : Ent := .mk me22a 3338 me22u me22c me22v 3487 me22l
/-- (*tableau/desk.request).coming -/
noncomputable def me23a : AV := (L [(.p 3528 0), (n64 1010)])
noncomputable def me23u : BL := [(39, (.mp (L [(n64 1010), (.p 2320 0)]))), (40, mg10), (53, mg55), (2320, mg59), (3528, mg28)]
noncomputable def me23c : BL := []
noncomputable def me23l : BL := []
noncomputable def me23v : AV := (.tup (L [(.b true), (n64 1)]))
noncomputable def me23 : Ent := .lo me23a 3529 me23u me23c me23v me23l
noncomputable def mg60 : GB := (.rw (.c2 (.mk (.mk (n64 1010) (n64 0) (.b false) (.b false) (n64 0) .ns .ns (.b false) (.b false) .ns (.b false) .ns .ns (.b false) (n64 0) .ns) (.mk .ns (.b false) (.b false) .ns (.b false) .ns .ns (.b false) (n64 1) .ns .ns (.b false) (.b true) .ns (.b false) (.s 3655 0 1 1 1 false)) (.mk .ns .u .u .u .u .u .u .u .u .u .u .u .u .u .u .u) (F.all .u) (F.all .u) (F.all .u) (F.all .u) (F.all .u) (F.all .u) (F.all .u) (F.all .u) (F.all .u) (F.all .u) (F.all .u) (F.all .u) (F.all .u))))
/-- (*tableau/forest.Forest).Commit -/
noncomputable def me24a : AV := (L [(.p 40 0), (n64 1010)])
noncomputable def me24u : BL := [(39, (.mp (L [(n64 1010), (.p 2320 0)]))), (40, mg10), (2847, mg16)]
noncomputable def me24c : BL := [(2320, mg59)]
noncomputable def me24l : BL := [(2320, mg60), (3609, mg30), (3655, mg16)]
noncomputable def me24v : AV := (.tup (L [(.s 3609 0 1 1 1 false), .ni]))
noncomputable def me24 : Ent := .mk me24a 3562 me24u me24c me24v 3658 me24l
noncomputable def mg61 : GB := (.rw (Cs.putL (L [(.m 3697), (.m 48)]) 0 (Cs.mk 2)))
noncomputable def mg62 : GB := (.rw (Cs.putL (L [(.s 3660 0 1 1 1 false)]) 0 (Cs.mk 1)))
noncomputable def mg63 : GB := (.mp (L [(n64 1010), (.agg (L [(n64 1010), (n64 0), (n64 0)]))]))
noncomputable def mg64 : GB := (.rw (.c1 (.mk (n64 1) (.m 38) (.p 35 0) (.p 40 0) (.p 42 0) (.p 45 0) (.m 46) (n64 1) (.p 49 0) (.p 50 0) (.m 51) (n64 1) (.p 52 0) (n64 1) (n64 0) (n64 0))))
noncomputable def mg65 : GB := (.rw (Cs.putL (L [(n64 4), (.s 3111 0 1 0 0 true)]) 0 (Cs.mk 2)))
/-- (*tableau/desk.Desk).Handle -/
noncomputable def me25a : AV := (L [(.p 53 0), (n64 1), (.agg (L [(n64 10), (n64 5), (.str [])]))])
noncomputable def me25u : BL := [(1, mg9), (38, (.mp (L [(n64 1), (.p 78 0)]))), (39, (.mp (L [(n64 1010), (.p 2320 0)]))), (40, mg10), (41, (.mp (L [(n64 1010), (.p 2510 0)]))), (42, mg19), (73, mg57), (74, mg11), (78, mg4), (2847, mg16), (3483, (.mp .nil))]
noncomputable def me25c : BL := [(49, mg58), (50, (.rw (Cs.putL (L [.ns]) 0 (Cs.mk 1)))), (51, (.mp .nil)), (53, mg55), (2320, mg59), (2510, mg49)]
noncomputable def me25l : BL := [(49, mg61), (50, mg62), (51, mg63), (53, mg64), (2320, mg60), (2510, mg65), (3655, mg16), (3660, mg30), (3697, (.mp (L [(n64 1), (.b true)])))]
noncomputable def me25v : AV := .ni
noncomputable def me25 : Ent := .mk me25a 3488 me25u me25c me25v 3701 me25l
noncomputable def mg66 : GB := (.rw (.c2 (.mk (.mk (n8 11) (n8 0) (n8 0) (n8 0) (n8 2) (n8 0) (n8 12) (n8 0) (n8 1) (n8 0) (n8 0) (n8 0) (n8 8) (n8 0) (n8 0) (n8 0)) (.mk (n8 0) (n8 0) (n8 32) (n8 0) (n8 13) (n8 0) (n8 0) (n8 0) (n8 0) (n8 0) (n8 0) (n8 0) (n8 8) (n8 0) (n8 0) (n8 0)) (.mk (n8 8) (n8 0) (n8 0) (n8 0) (n8 32) (n8 0) (n8 0) (n8 0) (n8 0) (n8 0) (n8 0) (n8 0) (n8 10) (n8 0) (n8 0) (n8 0)) (.mk (n8 1) (n8 0) (n8 20) (n8 0) (n8 13) (n8 0) (n8 0) (n8 0) (n8 0) (n8 0) (n8 0) (n8 0) (n8 0) (n8 0) (n8 0) (n8 0)) (.mk (n8 10) (n8 0) (n8 0) (n8 0) (n8 5) (n8 0) (n8 8) (n8 0) .u .u .u .u .u .u .u .u) (F.all .u) (F.all .u) (F.all .u) (F.all .u) (F.all .u) (F.all .u) (F.all .u) (F.all .u) (F.all .u) (F.all .u) (F.all .u))))
noncomputable def mg67 : GB := (.rw (Cs.putL (L [(.s 3016 64 1 0 0 true), .ni]) 0 (Cs.mk 2)))
/-- (*tableau/server.Server).feed -/
noncomputable def me26a : AV := (L [(.p 54 0), (n64 1), (.s 3015 0 1 72 72 false)])
noncomputable def me26u : BL := [(1, mg9), (3, mg42), (19, mg43), (38, (.mp (L [(n64 1), (.p 78 0)]))), (39, (.mp (L [(n64 1010), (.p 2320 0)]))), (40, mg10), (41, (.mp (L [(n64 1010), (.p 2510 0)]))), (42, mg19), (43, mg51), (45, mg52), (54, mg1), (74, mg11), (78, mg4), (81, mg5), (83, mg6), (2847, mg16), (2868, mg37), (2905, (.mp .nil)), (3015, mg66)]
noncomputable def me26c : BL := [(44, (.mp .nil)), (46, (.mp .nil)), (49, mg46), (50, (.rw (Cs.putL (L [.ns]) 0 (Cs.mk 1)))), (51, (.mp .nil)), (53, mg31), (66, mg25), (73, mg26), (79, mg47), (2320, mg29), (2510, mg33)]
noncomputable def me26l : BL := [(44, mg53), (46, (.mp (L [(n64 1), (n64 1013)]))), (49, mg61), (50, mg62), (51, mg63), (53, mg64), (66, mg56), (73, mg57), (79, mg67), (2320, mg60), (2510, mg65), (3016, mg66), (3111, (.rw (.c1 (F.all .u)))), (3655, mg16), (3660, mg30), (3697, (.mp (L [(n64 1), (.b true)])))]
noncomputable def me26v : AV := (.tup .nil)
noncomputable def me26 : Ent := .mk me26a 3016 me26u me26c me26v 3701 me26l
/-- tableau/tableautop.window -/
noncomputable def me27a : AV := (L [(.p 54 0), (n64 1), (n64 10), (n64 0), (n64 8), (n64 8)])
noncomputable def me27u : BL := [(1, mg9), (2, mg38), (3, mg42), (19, mg43), (38, (.mp (L [(n64 1), (.p 78 0)]))), (40, mg10), (42, mg19), (43, mg51), (45, mg52), (54, mg1), (74, mg11), (78, mg4), (81, mg5), (83, mg6), (2206, (.mp .nil))]
noncomputable def me27c : BL := [(39, (.mp .nil)), (41, (.mp .nil)), (44, (.mp .nil)), (46, (.mp .nil)), (49, mg12), (50, (.rw (Cs.putL (L [.ns]) 0 (Cs.mk 1)))), (51, (.mp .nil)), (53, mg0), (66, (.mp (L [(n64 8), (n64 1)]))), (73, mg13), (79, mg45), (80, mg39)]
noncomputable def me27l : BL := [(39, (.mp (L [(n64 1010), (.p 2320 0)]))), (41, (.mp (L [(n64 1010), (.p 2510 0)]))), (44, mg53), (46, (.mp (L [(n64 1), (n64 1013)]))), (49, mg61), (50, mg62), (51, mg63), (53, mg64), (66, mg56), (73, mg57), (79, mg67), (80, mg40), (2320, mg60), (2510, mg65), (3005, mg41), (3016, mg66), (3111, (.rw (.c1 (F.all .u)))), (3655, mg16), (3660, mg30), (3697, (.mp (L [(n64 1), (.b true)])))]
noncomputable def me27v : AV := (.b true)
noncomputable def me27 : Ent := .mk me27a 2218 me27u me27c me27v 3789 me27l
/-- tableau/tableauref04.such -/
noncomputable def me28a : AV := (L [(.agg (L [(n8 105), (.q .i64 0), (.str [])])), (n8 105)])
noncomputable def me28u : BL := []
noncomputable def me28c : BL := []
noncomputable def me28l : BL := []
noncomputable def me28v : AV := (.b true)
noncomputable def me28 : Ent := .mk me28a 3830 me28u me28c me28v 3831 me28l
/-- tableau/tableauref04.such -/
noncomputable def me29a : AV := (L [(.agg (L [(n8 105), (.q .i64 1), (.str [])])), (n8 105)])
noncomputable def me29u : BL := []
noncomputable def me29c : BL := []
noncomputable def me29l : BL := []
noncomputable def me29v : AV := (.b true)
noncomputable def me29 : Ent := .mk me29a 3831 me29u me29c me29v 3832 me29l
noncomputable def mg68 : GB := (.rw (Cs.putL (L [(.q .u8 0), (n8 0), (n8 0), (n8 0)]) 0 (Cs.mk 4)))
/-- tableau/tableauref01.Put -/
noncomputable def me30a : AV := (L [(.q .u32 0)])
noncomputable def me30u : BL := []
noncomputable def me30c : BL := []
noncomputable def me30l : BL := [(3832, mg68)]
noncomputable def me30v : AV := (.s 3832 0 1 4 4 true)
noncomputable def me30 : Ent := .mk me30a 3832 me30u me30c me30v 3833 me30l
noncomputable def mg69 : GB := (.rw (Cs.putL (L [(.q .u8 1), (n8 0), (n8 0), (n8 0)]) 0 (Cs.mk 4)))
/-- tableau/tableauref01.Put -/
noncomputable def me31a : AV := (L [(.q .u32 1)])
noncomputable def me31u : BL := []
noncomputable def me31c : BL := []
noncomputable def me31l : BL := [(3834, mg69)]
noncomputable def me31v : AV := (.s 3834 0 1 4 4 true)
noncomputable def me31 : Ent := .mk me31a 3834 me31u me31c me31v 3835 me31l
/-- tableau/tableauref04.such -/
noncomputable def me32a : AV := (L [(.agg (L [(n8 105), (.q .i64 2), (.str [])])), (n8 105)])
noncomputable def me32u : BL := []
noncomputable def me32c : BL := []
noncomputable def me32l : BL := []
noncomputable def me32v : AV := (.b true)
noncomputable def me32 : Ent := .mk me32a 3921 me32u me32c me32v 3922 me32l
/-- tableau/tableauref04.such -/
noncomputable def me33a : AV := (L [(.agg (L [(n8 105), (.q .i64 3), (.str [])])), (n8 105)])
noncomputable def me33u : BL := []
noncomputable def me33c : BL := []
noncomputable def me33l : BL := []
noncomputable def me33v : AV := (.b true)
noncomputable def me33 : Ent := .mk me33a 3922 me33u me33c me33v 3923 me33l
noncomputable def mg70 : GB := (.rw (Cs.putL (L [(.q .u8 2), (n8 0), (n8 0), (n8 0)]) 0 (Cs.mk 4)))
/-- tableau/tableauref01.Put -/
noncomputable def me34a : AV := (L [(.q .u32 2)])
noncomputable def me34u : BL := []
noncomputable def me34c : BL := []
noncomputable def me34l : BL := [(3923, mg70)]
noncomputable def me34v : AV := (.s 3923 0 1 4 4 true)
noncomputable def me34 : Ent := .mk me34a 3923 me34u me34c me34v 3924 me34l
noncomputable def mg71 : GB := (.rw (Cs.putL (L [(.q .u8 3), (n8 0), (n8 0), (n8 0)]) 0 (Cs.mk 4)))
/-- tableau/tableauref01.Put -/
noncomputable def me35a : AV := (L [(.q .u32 3)])
noncomputable def me35u : BL := []
noncomputable def me35c : BL := []
noncomputable def me35l : BL := [(3925, mg71)]
noncomputable def me35v : AV := (.s 3925 0 1 4 4 true)
noncomputable def me35 : Ent := .mk me35a 3925 me35u me35c me35v 3926 me35l
noncomputable def mg72 : GB := (.rw (.c2 (.mk (.mk (n8 3) (n8 0) (n8 0) (n8 0) (n8 0) (n8 0) (n8 12) (n8 0) (n8 20) (n8 0) (n8 0) (n8 0) (n8 5) (n8 0) (n8 0) (n8 0)) (.mk (n8 1) (n8 0) (n8 20) (n8 0) (n8 21) (n8 0) (n8 0) (n8 0) (n8 20) (n8 0) (n8 0) (n8 0) (n8 10) (n8 0) (n8 0) (n8 0)) (.mk (n8 21) (n8 0) (n8 0) (n8 0) (n8 1) (n8 0) (n8 16) (n8 0) (.q .u8 0) (n8 0) (n8 0) (n8 0) (.q .u8 1) (n8 0) (n8 0) (n8 0)) (.mk (n8 8) (n8 0) (n8 0) (n8 0) (n8 0) (n8 0) (n8 32) (n8 0) (n8 22) (n8 0) (n8 0) (n8 0) (n8 0) (n8 2) (n8 0) (n8 0)) (.mk (n8 1) (n8 0) (n8 0) (n8 0) (n8 1) (n8 0) (n8 0) (n8 0) (n8 4) (n8 0) (n8 0) (n8 0) (n8 0) (n8 0) (n8 0) (n8 0)) (.mk (n8 20) (n8 0) (n8 0) (n8 0) (n8 1) (n8 0) (n8 20) (n8 0) (n8 22) (n8 0) (n8 0) (n8 0) (n8 0) (n8 0) (n8 0) (n8 0)) (.mk (n8 0) (n8 0) (n8 0) (n8 0) (n8 20) (n8 0) (n8 0) (n8 0) (n8 5) (n8 0) (n8 8) (n8 0) (n8 10) (n8 0) (n8 0) (n8 0)) (.mk (n8 5) (n8 0) (n8 8) (n8 0) (n8 21) (n8 0) (n8 0) (n8 0) (n8 5) (n8 0) (n8 8) (n8 0) (n8 21) (n8 0) (n8 0) (n8 0)) (.mk (n8 1) (n8 0) (n8 16) (n8 0) (.q .u8 2) (n8 0) (n8 0) (n8 0) (.q .u8 3) (n8 0) (n8 0) (n8 0) (n8 20) (n8 0) (n8 0) (n8 0)) (.mk (n8 5) (n8 0) (n8 8) (n8 0) .u .u .u .u .u .u .u .u .u .u .u .u) (F.all .u) (F.all .u) (F.all .u) (F.all .u) (F.all .u) (F.all .u))))
noncomputable def mg73 : GB := (.rw (Cs.putL (L [(.s 3939 140 1 0 0 true), .ni]) 0 (Cs.mk 2)))
noncomputable def mg74 : GB := (.rw (.c2 (.mk (.mk (n64 3) (n64 0) (.str [20, 0, 0, 0]) (n64 5) (n64 1) (.str [21, 0, 0, 0, 20, 0, 0, 0, 10, 0, 0, 0]) (n64 21) (n64 1) (.str [256, 0, 0, 0, 257, 0, 0, 0]) (n64 8) (n64 0) (.str [22, 0, 0, 0, 0, 2, 0, 0, 1, 0, 0, 0, 1, 0, 0, 0, 4, 0, 0, 0, 0, 0, 0, 0]) (n64 20) (n64 1) (.str [22, 0, 0, 0, 0, 0, 0, 0, 0, 0, 0, 0]) (n64 20)) (.mk (n64 5) (.str []) (n64 10) (n64 5) (.str []) (n64 21) (n64 5) (.str []) (n64 21) (n64 1) (.str [258, 0, 0, 0, 259, 0, 0, 0]) (n64 20) (n64 5) (.str []) .u .u) (F.all .u) (F.all .u) (F.all .u) (F.all .u) (F.all .u) (F.all .u) (F.all .u) (F.all .u) (F.all .u) (F.all .u) (F.all .u) (F.all .u) (F.all .u) (F.all .u))))
/-- (*tableau/reader.Reader).Feed -/
noncomputable def me36a : AV := (L [(.p 79 0), (.s 3938 0 1 148 148 false)])
noncomputable def me36u : BL := [(3, mg42), (19, mg43), (3938, mg72)]
noncomputable def me36c : BL := [(79, mg67)]
noncomputable def me36l : BL := [(79, mg73), (3939, mg72), (3959, mg74)]
noncomputable def me36v : AV := (.tup (L [(.s 3959 0 3 10 10 false), .ni]))
noncomputable def me36 : Ent := .mk me36a 3939 me36u me36c me36v 3960 me36l
noncomputable def mg75 : GB := (.mp (L [(n64 1010), (.p 2320 0), (n64 1020), (.p 4050 0)]))
noncomputable def mg76 : GB := (.rw (.c2 (.mk (.mk (n64 1020) (n64 0) (.b false) (.b false) (n64 0) .ns .ns (.b false) (.b false) .ns (.b false) .ns .ns (.b false) (n64 0) .ns) (.mk .ns (.b false) (.b false) .ns (.b false) .ns .ns (.b false) (n64 0) .ns .ns (.b false) (.b true) .ns (.b false) (.s 4049 0 1 1 1 true)) (.mk .ns .u .u .u .u .u .u .u .u .u .u .u .u .u .u .u) (F.all .u) (F.all .u) (F.all .u) (F.all .u) (F.all .u) (F.all .u) (F.all .u) (F.all .u) (F.all .u) (F.all .u) (F.all .u) (F.all .u) (F.all .u))))
noncomputable def mg77 : GB := (.rw (Cs.putL (L [(n64 1), (n64 0)]) 0 (Cs.mk 2)))
/-- (*tableau/forest.Forest).Held -/
noncomputable def me37a : AV := (L [(.p 40 0)])
noncomputable def me37u : BL := [(39, mg75), (40, mg10), (2320, mg60), (4050, mg76)]
noncomputable def me37c : BL := []
noncomputable def me37l : BL := [(4088, mg77)]
noncomputable def me37v : AV := (.s 4088 0 1 1 2 false)
noncomputable def me37 : Ent := .mk me37a 4084 me37u me37c me37v 4089 me37l
noncomputable def mg78 : GB := (.rw (Cs.putL (L [(.m 4089), (.m 48)]) 0 (Cs.mk 2)))
noncomputable def mg79 : GB := (.mp (L [(n64 1), (.agg (L [(n64 1), (n64 1)])), (n64 2), (.agg (L [(n64 2), (n64 1)])), (n64 3), (.agg (L [(n64 4), (n64 1)])), (n64 4), (.agg (L [(n64 5), (n64 1)])), (n64 5), (.agg (L [(n64 10), (n64 1)])), (n64 6), (.agg (L [(n64 12), (n64 1)])), (n64 7), (.agg (L [(n64 15), (n64 1)])), (n64 8), (.agg (L [(n64 6), (n64 1)])), (n64 10), (.agg (L [(n64 8), (n64 1)])), (n64 11), (.agg (L [(n64 16), (n64 1)])), (n64 12), (.agg (L [(n64 17), (n64 1)])), (n64 13), (.agg (L [(n64 7), (n64 1)])), (n64 20), (.agg (L [(n64 8), (n64 1)]))]))
/-- (*tableau/desk.Desk).Handle -/
noncomputable def me38a : AV := (L [(.p 53 0), (n64 1), (.agg (L [(n64 3), (n64 0), (.str [20, 0, 0, 0])]))])
noncomputable def me38u : BL := [(1, mg9), (38, (.mp (L [(n64 1), (.p 78 0)]))), (40, mg10), (53, mg64), (74, mg11), (78, mg4), (2320, mg60), (3697, (.mp (L [(n64 1), (.b true)])))]
noncomputable def me38c : BL := [(39, (.mp (L [(n64 1010), (.p 2320 0)]))), (49, mg61), (73, mg57)]
noncomputable def me38l : BL := [(39, mg75), (49, mg78), (73, mg79), (4049, mg16), (4050, mg76), (4089, (.mp (L [(n64 1), (.b true)])))]
noncomputable def me38v : AV := .ni
noncomputable def me38 : Ent := .mk me38a 3961 me38u me38c me38v 4093 me38l
noncomputable def mg80 : GB := (.rw (.c2 (.mk (.mk (n64 1010) (n64 0) (.b false) (.b false) (n64 0) .ns .ns (.b false) (.b false) .ns (.b true) (.s 4208 0 1 2 2 false) (.s 4212 0 3 1 1 false) (.b false) (n64 0) .ns) (.mk .ns (.b false) (.b false) .ns (.b false) .ns .ns (.b false) (n64 1) .ns .ns (.b false) (.b true) .ns (.b false) (.s 3655 0 1 1 1 false)) (.mk .ns .u .u .u .u .u .u .u .u .u .u .u .u .u .u .u) (F.all .u) (F.all .u) (F.all .u) (F.all .u) (F.all .u) (F.all .u) (F.all .u) (F.all .u) (F.all .u) (F.all .u) (F.all .u) (F.all .u) (F.all .u))))
noncomputable def mg81 : GB := (.rw (.c2 (.mk (.mk (n64 1020) (n64 1010) (.b true) (.b false) (n64 0) .ns .ns (.b false) (.b false) .ns (.b false) .ns .ns (.b false) (n64 0) .ns) (.mk .ns (.b false) (.b false) .ns (.b false) .ns .ns (.b false) (n64 0) .ns .ns (.b false) (.b true) .ns (.b false) (.s 4049 0 1 1 1 true)) (.mk .ns .u .u .u .u .u .u .u .u .u .u .u .u .u .u .u) (F.all .u) (F.all .u) (F.all .u) (F.all .u) (F.all .u) (F.all .u) (F.all .u) (F.all .u) (F.all .u) (F.all .u) (F.all .u) (F.all .u) (F.all .u))))
/-- (*tableau/forest.Forest).Held -/
noncomputable def me39a : AV := (L [(.p 40 0)])
noncomputable def me39u : BL := [(39, mg75), (40, mg10), (2320, mg80), (4050, mg81)]
noncomputable def me39c : BL := []
noncomputable def me39l : BL := [(4250, mg77)]
noncomputable def me39v : AV := (.s 4250 0 1 1 2 false)
noncomputable def me39 : Ent := .mk me39a 4246 me39u me39c me39v 4251 me39l
noncomputable def mg82 : GB := (.rw (Cs.putL (L [(.m 4251), (.m 48)]) 0 (Cs.mk 2)))
noncomputable def mg83 : GB := (.mp (L [(n64 8), (n64 1), (n64 11), (n64 1010), (n64 12), (n64 1010), (n64 13), (n64 1), (n64 21), (n64 1020)]))
noncomputable def mg84 : GB := (.mp (L [(n64 1), (.agg (L [(n64 1), (n64 1)])), (n64 2), (.agg (L [(n64 2), (n64 1)])), (n64 3), (.agg (L [(n64 4), (n64 1)])), (n64 4), (.agg (L [(n64 5), (n64 1)])), (n64 5), (.agg (L [(n64 10), (n64 1)])), (n64 6), (.agg (L [(n64 12), (n64 1)])), (n64 7), (.agg (L [(n64 15), (n64 1)])), (n64 8), (.agg (L [(n64 6), (n64 1)])), (n64 10), (.agg (L [(n64 8), (n64 1)])), (n64 11), (.agg (L [(n64 16), (n64 1)])), (n64 12), (.agg (L [(n64 17), (n64 1)])), (n64 13), (.agg (L [(n64 7), (n64 1)])), (n64 20), (.agg (L [(n64 8), (n64 1)])), (n64 21), (.agg (L [(n64 11), (n64 1)]))]))
noncomputable def mg85 : GB := (.rw (Cs.putL (L [(n64 0), (n64 1020)]) 0 (Cs.mk 2)))
noncomputable def mg86 : GB := (.rw (Cs.putL (L [(n64 1020), (n64 0), (n64 0)]) 0 (Cs.mk 3)))
/-- (*tableau/desk.Desk).Handle -/
noncomputable def me40a : AV := (L [(.p 53 0), (n64 1), (.agg (L [(n64 5), (n64 1), (.str [21, 0, 0, 0, 20, 0, 0, 0, 10, 0, 0, 0])]))])
noncomputable def me40u : BL := [(1, mg9), (38, (.mp (L [(n64 1), (.p 78 0)]))), (39, mg75), (40, mg10), (41, (.mp (L [(n64 1010), (.p 2510 0)]))), (42, mg19), (53, mg64), (74, mg11), (78, mg4), (3655, mg16), (4089, (.mp (L [(n64 1), (.b true)])))]
noncomputable def me40c : BL := [(49, mg78), (66, mg56), (73, mg79), (2320, mg60), (4050, mg76)]
noncomputable def me40l : BL := [(49, mg82), (66, mg83), (73, mg84), (2320, mg80), (4050, mg81), (4208, mg85), (4212, mg86), (4251, (.mp (L [(n64 1), (.b true)])))]
noncomputable def me40v : AV := .ni
noncomputable def me40 : Ent := .mk me40a 4094 me40u me40c me40v 4255 me40l
noncomputable def mg87 : GB := (.rw (Cs.putL (L [(n8 105), (.q .i64 0), (.str []), (n8 105), (.q .i64 1), (.str [])]) 0 (Cs.mk 6)))
/-- tableau/wire.Get -/
noncomputable def me41a : AV := (L [(.agg (L [(n64 21), (n64 1), (.str [256, 0, 0, 0, 257, 0, 0, 0])])), (.str [105, 105])])
noncomputable def me41u : BL := [(1, mg9)]
noncomputable def me41c : BL := []
noncomputable def me41l : BL := [(4305, mg87)]
noncomputable def me41v : AV := (.tup (L [(.agg (L [(n64 21), (n64 1), (.s 4305 0 3 2 2 false)])), .ni]))
noncomputable def me41 : Ent := .mk me41a 4290 me41u me41c me41v 4311 me41l
/-- tableau/forest.cut -/
noncomputable def me42a : AV := (L [(.q .i64 0)])
noncomputable def me42u : BL := []
noncomputable def me42c : BL := []
noncomputable def me42l : BL := []
noncomputable def me42v : AV := (.q .i64 0)
noncomputable def me42 : Ent := .lo me42a 34 me42u me42c me42v me42l
/-- tableau/forest.cut -/
noncomputable def me43a : AV := (L [(.q .i64 1)])
noncomputable def me43u : BL := []
noncomputable def me43c : BL := []
noncomputable def me43l : BL := []
noncomputable def me43v : AV := (.q .i64 1)
noncomputable def me43 : Ent := .lo me43a 34 me43u me43c me43v me43l
noncomputable def mg88 : GB := (.rw (.c2 (.mk (.mk (n64 1010) (n64 0) (.b false) (.b false) (n64 0) .ns .ns (.b false) (.b false) .ns (.b true) (.s 4208 0 1 2 2 false) (.s 4354 0 3 1 1 false) (.b false) (n64 0) .ns) (.mk .ns (.b false) (.b false) .ns (.b false) .ns .ns (.b false) (n64 1) .ns .ns (.b false) (.b true) .ns (.b false) (.s 3655 0 1 1 1 false)) (.mk .ns .u .u .u .u .u .u .u .u .u .u .u .u .u .u .u) (F.all .u) (F.all .u) (F.all .u) (F.all .u) (F.all .u) (F.all .u) (F.all .u) (F.all .u) (F.all .u) (F.all .u) (F.all .u) (F.all .u) (F.all .u))))
/-- (*tableau/forest.Forest).Held -/
noncomputable def me44a : AV := (L [(.p 40 0)])
noncomputable def me44u : BL := [(39, mg75), (40, mg10), (2320, mg88), (4050, mg81)]
noncomputable def me44c : BL := []
noncomputable def me44l : BL := [(4392, mg77)]
noncomputable def me44v : AV := (.s 4392 0 1 1 2 false)
noncomputable def me44 : Ent := .mk me44a 4388 me44u me44c me44v 4393 me44l
noncomputable def mg89 : GB := (.rw (Cs.putL (L [(.m 4393), (.m 48)]) 0 (Cs.mk 2)))
noncomputable def mg90 : GB := (.rw (Cs.putL (L [(n64 1020), (.q .i64 0), (.q .i64 1)]) 0 (Cs.mk 3)))
/-- (*tableau/desk.Desk).Handle -/
noncomputable def me45a : AV := (L [(.p 53 0), (n64 1), (.agg (L [(n64 21), (n64 1), (.str [256, 0, 0, 0, 257, 0, 0, 0])]))])
noncomputable def me45u : BL := [(1, mg9), (38, (.mp (L [(n64 1), (.p 78 0)]))), (39, mg75), (40, mg10), (53, mg64), (66, mg83), (73, mg84), (74, mg11), (78, mg4), (4050, mg81), (4212, mg86), (4251, (.mp (L [(n64 1), (.b true)])))]
noncomputable def me45c : BL := [(49, mg82), (2320, mg80)]
noncomputable def me45l : BL := [(49, mg89), (2320, mg88), (4354, mg90), (4393, (.mp (L [(n64 1), (.b true)])))]
noncomputable def me45v : AV := .ni
noncomputable def me45 : Ent := .mk me45a 4256 me45u me45c me45v 4397 me45l
noncomputable def mg91 : GB := (.rw (.c2 (.mk (.mk (n8 110) (n64 22) (.str []) (n8 105) (n64 512) (.str []) (n8 105) (n64 1) (.str []) (n8 105) (n64 1) (.str []) (n8 105) (n64 4) (.str []) (n8 117)) (.mk (n64 0) (.str []) .u .u .u .u .u .u .u .u .u .u .u .u .u .u) (F.all .u) (F.all .u) (F.all .u) (F.all .u) (F.all .u) (F.all .u) (F.all .u) (F.all .u) (F.all .u) (F.all .u) (F.all .u) (F.all .u) (F.all .u) (F.all .u))))
/-- tableau/wire.Get -/
noncomputable def me46a : AV := (L [(.agg (L [(n64 8), (n64 0), (.str [22, 0, 0, 0, 0, 2, 0, 0, 1, 0, 0, 0, 1, 0, 0, 0, 4, 0, 0, 0, 0, 0, 0, 0])])), (.str [110, 105, 105, 105, 105, 117])])
noncomputable def me46u : BL := [(1, mg9)]
noncomputable def me46c : BL := []
noncomputable def me46l : BL := [(4471, mg91)]
noncomputable def me46v : AV := (.tup (L [(.agg (L [(n64 8), (n64 0), (.s 4471 0 3 6 6 false)])), .ni]))
noncomputable def me46 : Ent := .mk me46a 4432 me46u me46c me46v 4485 me46l
/-- (*tableau/forest.Forest).Held -/
noncomputable def me47a : AV := (L [(.p 40 0)])
noncomputable def me47u : BL := [(39, mg75), (40, mg10), (2320, mg88), (4050, mg81)]
noncomputable def me47c : BL := []
noncomputable def me47l : BL := [(4579, mg77)]
noncomputable def me47v : AV := (.s 4579 0 1 1 2 false)
noncomputable def me47 : Ent := .mk me47a 4575 me47u me47c me47v 4580 me47l
noncomputable def mg92 : GB := (.mp (L [(n64 1), (.agg (L [(n64 1), (n64 0), (n64 8), (n64 8), (n64 32), (n64 0), (.b true)])), (n64 2), (.agg (L [(n64 1), (n64 512), (n64 1), (n64 1), (n64 4), (n64 0), (.b true)]))]))
noncomputable def mg93 : GB := (.mp (L [(n64 1), (n64 1013), (n64 2), (n64 1022)]))
noncomputable def mg94 : GB := (.rw (Cs.putL (L [(.m 4580), (.m 48)]) 0 (Cs.mk 2)))
noncomputable def mg95 : GB := (.rw (.c1 (.mk (n64 1) (.m 38) (.p 35 0) (.p 40 0) (.p 42 0) (.p 45 0) (.m 46) (n64 2) (.p 49 0) (.p 50 0) (.m 51) (n64 1) (.p 52 0) (n64 1) (n64 0) (n64 0))))
noncomputable def mg96 : GB := (.mp (L [(n64 8), (n64 1), (n64 11), (n64 1010), (n64 12), (n64 1010), (n64 13), (n64 1), (n64 21), (n64 1020), (n64 22), (n64 2)]))
noncomputable def mg97 : GB := (.mp (L [(n64 1), (.agg (L [(n64 1), (n64 1)])), (n64 2), (.agg (L [(n64 2), (n64 1)])), (n64 3), (.agg (L [(n64 4), (n64 1)])), (n64 4), (.agg (L [(n64 5), (n64 1)])), (n64 5), (.agg (L [(n64 10), (n64 1)])), (n64 6), (.agg (L [(n64 12), (n64 1)])), (n64 7), (.agg (L [(n64 15), (n64 1)])), (n64 8), (.agg (L [(n64 6), (n64 1)])), (n64 10), (.agg (L [(n64 8), (n64 1)])), (n64 11), (.agg (L [(n64 16), (n64 1)])), (n64 12), (.agg (L [(n64 17), (n64 1)])), (n64 13), (.agg (L [(n64 7), (n64 1)])), (n64 20), (.agg (L [(n64 8), (n64 1)])), (n64 21), (.agg (L [(n64 11), (n64 1)])), (n64 22), (.agg (L [(n64 7), (n64 1)]))]))
/-- (*tableau/desk.Desk).Handle -/
noncomputable def me48a : AV := (L [(.p 53 0), (n64 1), (.agg (L [(n64 8), (n64 0), (.str [22, 0, 0, 0, 0, 2, 0, 0, 1, 0, 0, 0, 1, 0, 0, 0, 4, 0, 0, 0, 0, 0, 0, 0])]))])
noncomputable def me48u : BL := [(1, mg9), (38, (.mp (L [(n64 1), (.p 78 0)]))), (39, mg75), (40, mg10), (43, mg51), (45, mg52), (74, mg11), (78, mg4), (2320, mg88), (4050, mg81), (4393, (.mp (L [(n64 1), (.b true)])))]
noncomputable def me48c : BL := [(44, mg53), (46, (.mp (L [(n64 1), (n64 1013)]))), (49, mg89), (53, mg64), (66, mg83), (73, mg84)]
noncomputable def me48l : BL := [(44, mg92), (46, mg93), (49, mg94), (53, mg95), (66, mg96), (73, mg97), (4580, (.mp (L [(n64 1), (.b true)])))]
noncomputable def me48v : AV := .ni
noncomputable def me48 : Ent := .mk me48a 4398 me48u me48c me48v 4584 me48l
noncomputable def mg98 : GB := (.rw (.c2 (.mk (.mk (n64 1020) (n64 1010) (.b true) (.b true) (n64 2) .ns .ns (.b false) (.b false) .ns (.b false) .ns .ns (.b false) (n64 0) .ns) (.mk .ns (.b false) (.b false) .ns (.b false) .ns .ns (.b false) (n64 0) .ns .ns (.b false) (.b true) .ns (.b false) (.s 4049 0 1 1 1 true)) (.mk .ns .u .u .u .u .u .u .u .u .u .u .u .u .u .u .u) (F.all .u) (F.all .u) (F.all .u) (F.all .u) (F.all .u) (F.all .u) (F.all .u) (F.all .u) (F.all .u) (F.all .u) (F.all .u) (F.all .u) (F.all .u))))
/-- (*tableau/forest.Forest).Held -/
noncomputable def me49a : AV := (L [(.p 40 0)])
noncomputable def me49u : BL := [(39, mg75), (40, mg10), (2320, mg88), (4050, mg98)]
noncomputable def me49c : BL := []
noncomputable def me49l : BL := [(4731, mg77)]
noncomputable def me49v : AV := (.s 4731 0 1 1 2 false)
noncomputable def me49 : Ent := .mk me49a 4727 me49u me49c me49v 4732 me49l
noncomputable def mg99 : GB := (.rw (Cs.putL (L [(.m 4732), (.m 48)]) 0 (Cs.mk 2)))
/-- (*tableau/desk.Desk).Handle -/
noncomputable def me50a : AV := (L [(.p 53 0), (n64 1), (.agg (L [(n64 20), (n64 1), (.str [22, 0, 0, 0, 0, 0, 0, 0, 0, 0, 0, 0])]))])
noncomputable def me50u : BL := [(1, mg9), (38, (.mp (L [(n64 1), (.p 78 0)]))), (39, mg75), (40, mg10), (53, mg95), (66, mg96), (73, mg97), (74, mg11), (78, mg4), (2320, mg88), (4580, (.mp (L [(n64 1), (.b true)])))]
noncomputable def me50c : BL := [(49, mg94), (4050, mg81)]
noncomputable def me50l : BL := [(49, mg99), (4050, mg98), (4732, (.mp (L [(n64 1), (.b true)])))]
noncomputable def me50v : AV := .ni
noncomputable def me50 : Ent := .mk me50a 4585 me50u me50c me50v 4736 me50l
noncomputable def mg100 : GB := (.rw (.c2 (.mk (.mk (n64 1020) (n64 1010) (.b true) (.b false) (n64 0) .ns .ns (.b false) (.b false) .ns (.b false) .ns .ns (.b true) (n64 2) .ns) (.mk .ns (.b false) (.b false) .ns (.b false) .ns .ns (.b false) (n64 0) .ns .ns (.b false) (.b true) .ns (.b false) (.s 4049 0 1 1 1 true)) (.mk .ns .u .u .u .u .u .u .u .u .u .u .u .u .u .u .u) (F.all .u) (F.all .u) (F.all .u) (F.all .u) (F.all .u) (F.all .u) (F.all .u) (F.all .u) (F.all .u) (F.all .u) (F.all .u) (F.all .u) (F.all .u))))
noncomputable def mg101 : GB := (.rw (Cs.putL (L [(n64 1), (n64 2), (n64 0)]) 0 (Cs.mk 3)))
/-- (*tableau/forest.Forest).Held -/
noncomputable def me51a : AV := (L [(.p 40 0)])
noncomputable def me51u : BL := [(39, mg75), (40, mg10), (2320, mg88), (4050, mg100)]
noncomputable def me51c : BL := []
noncomputable def me51l : BL := [(4894, mg101)]
noncomputable def me51v : AV := (.s 4894 0 1 2 3 false)
noncomputable def me51 : Ent := .mk me51a 4888 me51u me51c me51v 4895 me51l
noncomputable def mg102 : GB := (.rw (Cs.putL (L [(.m 4895), (.m 48)]) 0 (Cs.mk 2)))
noncomputable def mg103 : GB := (.mp (L [(n64 1), (.b true), (n64 2), (.b true)]))
/-- (*tableau/uses.Uses).Now -/
noncomputable def me52a : AV := (L [(.p 49 0), (.s 4894 0 1 2 3 false)])
noncomputable def me52u : BL := [(4732, (.mp (L [(n64 1), (.b true)]))), (4894, mg101)]
noncomputable def me52c : BL := [(49, mg99)]
noncomputable def me52l : BL := [(49, mg102), (4895, mg103)]
noncomputable def me52v : AV := .ns
noncomputable def me52 : Ent := .mk me52a 4895 me52u me52c me52v 4899 me52l
/-- (*tableau/desk.Desk).Handle -/
noncomputable def me53a : AV := (L [(.p 53 0), (n64 1), (.agg (L [(n64 20), (n64 5), (.str [])]))])
noncomputable def me53u : BL := [(1, mg9), (38, (.mp (L [(n64 1), (.p 78 0)]))), (39, mg75), (40, mg10), (41, (.mp (L [(n64 1010), (.p 2510 0)]))), (42, mg19), (53, mg95), (73, mg97), (74, mg11), (78, mg4), (2320, mg88), (4732, (.mp (L [(n64 1), (.b true)])))]
noncomputable def me53c : BL := [(49, mg99), (4050, mg98)]
noncomputable def me53l : BL := [(49, mg102), (4050, mg100), (4895, mg103)]
noncomputable def me53v : AV := .ni
noncomputable def me53 : Ent := .mk me53a 4737 me53u me53c me53v 4899 me53l
/-- (*tableau/desk.request).coming -/
noncomputable def me54a : AV := (L [(.p 4940 0), (n64 1010)])
noncomputable def me54u : BL := [(39, mg75), (40, mg10), (53, mg95), (2320, mg88), (3655, mg16), (4208, mg85), (4354, mg90), (4940, mg28)]
noncomputable def me54c : BL := []
noncomputable def me54l : BL := []
noncomputable def me54v : AV := (.tup (L [(.b false), (n64 1)]))
noncomputable def me54 : Ent := .lo me54a 4941 me54u me54c me54v me54l
noncomputable def mg104 : GB := (.rw (Cs.putL (L [(.p 40 0)]) 0 (Cs.mk 1)))
noncomputable def mg105 : GB := (.rw (Cs.putL (L [(.f 341 .nil (L [(.p 4974 0), (.p 5025 0), (.p 5026 0)]))]) 0 (Cs.mk 1)))
noncomputable def mg106 : GB := (.rw (.c2 (.mk (.mk (n64 1010) (n64 0) (.b false) (.b false) (n64 0) .ns .ns (.b false) (.b false) .ns (.b false) .ns .ns (.b false) (n64 0) .ns) (.mk .ns (.b false) (.b false) .ns (.b true) (.s 5024 0 1 2 2 false) (.s 5022 0 3 1 1 false) (.b false) (n64 1) .ns .ns (.b false) (.b true) .ns (.b false) (.s 3655 0 1 1 1 false)) (.mk .ns .u .u .u .u .u .u .u .u .u .u .u .u .u .u .u) (F.all .u) (F.all .u) (F.all .u) (F.all .u) (F.all .u) (F.all .u) (F.all .u) (F.all .u) (F.all .u) (F.all .u) (F.all .u) (F.all .u) (F.all .u))))
noncomputable def mg107 : GB := (.rw (Cs.putL (L [(.s 5028 0 1 1 1 false)]) 0 (Cs.mk 1)))
noncomputable def mg108 : GB := (.rw (.c2 (.mk (.mk (n64 1010) (n64 0) (.b false) (.b false) (n64 0) .ns .ns (.b false) (.b false) .ns (.b false) .ns .ns (.b false) (n64 0) .ns) (.mk .ns (.b false) (.b false) .ns (.b false) .ns .ns (.b false) (n64 1) .ns .ns (.b false) (.b true) .ns (.b false) (.s 5082 0 1 2 2 false)) (.mk (.s 5080 0 3 1 1 false) .u .u .u .u .u .u .u .u .u .u .u .u .u .u .u) (F.all .u) (F.all .u) (F.all .u) (F.all .u) (F.all .u) (F.all .u) (F.all .u) (F.all .u) (F.all .u) (F.all .u) (F.all .u) (F.all .u) (F.all .u))))
noncomputable def mg109 : GB := (.rw (.c2 (.mk (.mk (n64 1020) (n64 1010) (.b true) (.b false) (n64 0) .ns .ns (.b false) (.b false) .ns (.b false) .ns .ns (.b false) (n64 0) .ns) (.mk .ns (.b false) (.b false) .ns (.b false) .ns .ns (.b false) (n64 2) .ns .ns (.b false) (.b true) .ns (.b false) (.s 5132 0 1 1 1 false)) (.mk .ns .u .u .u .u .u .u .u .u .u .u .u .u .u .u .u) (F.all .u) (F.all .u) (F.all .u) (F.all .u) (F.all .u) (F.all .u) (F.all .u) (F.all .u) (F.all .u) (F.all .u) (F.all .u) (F.all .u) (F.all .u))))
noncomputable def mg110 : GB := (.rw (Cs.putL (L [(.s 5086 0 1 2 2 false)]) 0 (Cs.mk 1)))
noncomputable def mg111 : GB := (.rw (Cs.putL (L [(n64 1010), (n64 1020)]) 0 (Cs.mk 2)))
/-- (*tableau/forest.Forest).Commit$1 -/
noncomputable def me55a : AV := (L [(.p 2320 0), (.p 4974 0), (.p 5025 0), (.p 5026 0)])
noncomputable def me55u : BL := [(39, mg75), (40, mg10), (3655, mg16), (4049, mg16), (4974, mg104), (5022, mg90), (5024, mg85), (5026, mg105)]
noncomputable def me55c : BL := [(2320, mg106), (4050, mg100), (5025, mg107), (5028, mg30)]
noncomputable def me55l : BL := [(2320, mg108), (4050, mg109), (5025, mg110), (5080, mg90), (5082, mg85), (5086, mg111), (5132, mg16)]
noncomputable def me55v : AV := (.tup .nil)
noncomputable def me55 : Ent := .mk me55a 5029 me55u me55c me55v 5135 me55l
/-- (*tableau/desk.request).act -/
noncomputable def me56a : AV := (L [(.p 4940 0)])
noncomputable def me56u : BL := [(39, mg75), (40, mg10), (41, (.mp (L [(n64 1010), (.p 2510 0)]))), (42, mg19), (53, mg95), (2510, mg65), (3655, mg16), (4049, mg16), (4208, mg85), (4354, mg90), (4940, mg28)]
noncomputable def me56c : BL := [(2320, mg88), (4050, mg100)]
noncomputable def me56l : BL := [(2320, mg108), (4050, mg109), (5080, mg90), (5082, mg85), (5132, mg16)]
noncomputable def me56v : AV := .ni
noncomputable def me56 : Ent := .mk me56a 4974 me56u me56c me56v 5135 me56l
noncomputable def mg112 : GB := (.rw (Cs.putL (L [(n64 1), (n64 2)]) 0 (Cs.mk 2)))
/-- (*tableau/forest.Forest).Held -/
noncomputable def me57a : AV := (L [(.p 40 0)])
noncomputable def me57u : BL := [(39, mg75), (40, mg10), (2320, mg108), (4050, mg109)]
noncomputable def me57c : BL := []
noncomputable def me57l : BL := [(5172, mg112)]
noncomputable def me57v : AV := (.s 5172 0 1 2 2 false)
noncomputable def me57 : Ent := .mk me57a 5168 me57u me57c me57v 5173 me57l
noncomputable def mg113 : GB := (.rw (Cs.putL (L [(.m 5173), (.m 48)]) 0 (Cs.mk 2)))
/-- (*tableau/uses.Uses).Now -/
noncomputable def me58a : AV := (L [(.p 49 0), (.s 5172 0 1 2 2 false)])
noncomputable def me58u : BL := [(4895, mg103), (5172, mg112)]
noncomputable def me58c : BL := [(49, mg102)]
noncomputable def me58l : BL := [(49, mg113), (5173, mg103)]
noncomputable def me58v : AV := .ns
noncomputable def me58 : Ent := .mk me58a 5173 me58u me58c me58v 5177 me58l
noncomputable def mg114 : GB := (.rw (.c2 (.mk (.mk (n64 1020) (n64 1010) (.b false) (.b false) (n64 0) .ns .ns (.b false) (.b false) .ns (.b false) .ns .ns (.b false) (n64 0) .ns) (.mk .ns (.b false) (.b false) .ns (.b false) .ns .ns (.b false) (n64 2) .ns .ns (.b false) (.b true) .ns (.b false) (.s 5132 0 1 1 1 false)) (.mk .ns .u .u .u .u .u .u .u .u .u .u .u .u .u .u .u) (F.all .u) (F.all .u) (F.all .u) (F.all .u) (F.all .u) (F.all .u) (F.all .u) (F.all .u) (F.all .u) (F.all .u) (F.all .u) (F.all .u) (F.all .u))))
/-- (*tableau/forest.Forest).Held -/
noncomputable def me59a : AV := (L [(.p 40 0)])
noncomputable def me59u : BL := [(39, mg75), (40, mg10), (2320, mg108), (4050, mg114)]
noncomputable def me59c : BL := []
noncomputable def me59l : BL := [(5289, mg112)]
noncomputable def me59v : AV := (.s 5289 0 1 2 2 false)
noncomputable def me59 : Ent := .mk me59a 5285 me59u me59c me59v 5290 me59l
noncomputable def mg115 : GB := (.rw (Cs.putL (L [(.m 5290), (.m 48)]) 0 (Cs.mk 2)))
/-- (*tableau/uses.Uses).Now -/
noncomputable def me60a : AV := (L [(.p 49 0), (.s 5289 0 1 2 2 false)])
noncomputable def me60u : BL := [(5173, mg103), (5289, mg112)]
noncomputable def me60c : BL := [(49, mg113)]
noncomputable def me60l : BL := [(49, mg115), (5290, mg103)]
noncomputable def me60v : AV := .ns
noncomputable def me60 : Ent := .mk me60a 5290 me60u me60c me60v 5294 me60l
noncomputable def mg116 : GB := (.rw (Cs.putL (L [(n8 105), (.q .i64 2), (.str []), (n8 105), (.q .i64 3), (.str [])]) 0 (Cs.mk 6)))
/-- tableau/wire.Get -/
noncomputable def me61a : AV := (L [(.agg (L [(n64 21), (n64 1), (.str [258, 0, 0, 0, 259, 0, 0, 0])])), (.str [105, 105])])
noncomputable def me61u : BL := [(1, mg9)]
noncomputable def me61c : BL := []
noncomputable def me61l : BL := [(5344, mg116)]
noncomputable def me61v : AV := (.tup (L [(.agg (L [(n64 21), (n64 1), (.s 5344 0 3 2 2 false)])), .ni]))
noncomputable def me61 : Ent := .mk me61a 5329 me61u me61c me61v 5350 me61l
/-- tableau/forest.cut -/
noncomputable def me62a : AV := (L [(.q .i64 2)])
noncomputable def me62u : BL := []
noncomputable def me62c : BL := []
noncomputable def me62l : BL := []
noncomputable def me62v : AV := (.q .i64 2)
noncomputable def me62 : Ent := .lo me62a 34 me62u me62c me62v me62l
/-- tableau/forest.cut -/
noncomputable def me63a : AV := (L [(.q .i64 3)])
noncomputable def me63u : BL := []
noncomputable def me63c : BL := []
noncomputable def me63l : BL := []
noncomputable def me63v : AV := (.q .i64 3)
noncomputable def me63 : Ent := .lo me63a 34 me63u me63c me63v me63l
noncomputable def mg117 : GB := (.rw (.c2 (.mk (.mk (n64 1010) (n64 0) (.b false) (.b false) (n64 0) .ns .ns (.b false) (.b false) .ns (.b false) .ns (.s 5394 0 3 1 1 false) (.b false) (n64 0) .ns) (.mk .ns (.b false) (.b false) .ns (.b false) .ns .ns (.b false) (n64 1) .ns .ns (.b false) (.b true) .ns (.b false) (.s 5082 0 1 2 2 false)) (.mk (.s 5080 0 3 1 1 false) .u .u .u .u .u .u .u .u .u .u .u .u .u .u .u) (F.all .u) (F.all .u) (F.all .u) (F.all .u) (F.all .u) (F.all .u) (F.all .u) (F.all .u) (F.all .u) (F.all .u) (F.all .u) (F.all .u) (F.all .u))))
/-- (*tableau/forest.Forest).Held -/
noncomputable def me64a : AV := (L [(.p 40 0)])
noncomputable def me64u : BL := [(39, mg75), (40, mg10), (2320, mg117), (4050, mg114)]
noncomputable def me64c : BL := []
noncomputable def me64l : BL := [(5432, mg112)]
noncomputable def me64v : AV := (.s 5432 0 1 2 2 false)
noncomputable def me64 : Ent := .mk me64a 5428 me64u me64c me64v 5433 me64l
noncomputable def mg118 : GB := (.rw (Cs.putL (L [(.m 5433), (.m 48)]) 0 (Cs.mk 2)))
/-- (*tableau/uses.Uses).Now -/
noncomputable def me65a : AV := (L [(.p 49 0), (.s 5432 0 1 2 2 false)])
noncomputable def me65u : BL := [(5290, mg103), (5432, mg112)]
noncomputable def me65c : BL := [(49, mg115)]
noncomputable def me65l : BL := [(49, mg118), (5433, mg103)]
noncomputable def me65v : AV := .ns
noncomputable def me65 : Ent := .mk me65a 5433 me65u me65c me65v 5437 me65l
noncomputable def mg119 : GB := (.rw (Cs.putL (L [(n64 1020), (.q .i64 2), (.q .i64 3)]) 0 (Cs.mk 3)))
/-- (*tableau/desk.Desk).Handle -/
noncomputable def me66a : AV := (L [(.p 53 0), (n64 1), (.agg (L [(n64 21), (n64 1), (.str [258, 0, 0, 0, 259, 0, 0, 0])]))])
noncomputable def me66u : BL := [(1, mg9), (38, (.mp (L [(n64 1), (.p 78 0)]))), (39, mg75), (40, mg10), (53, mg95), (66, mg96), (73, mg97), (74, mg11), (78, mg4), (4050, mg114), (5290, mg103)]
noncomputable def me66c : BL := [(49, mg115), (2320, mg108)]
noncomputable def me66l : BL := [(49, mg118), (2320, mg117), (5394, mg119), (5433, mg103)]
noncomputable def me66v : AV := .ni
noncomputable def me66 : Ent := .mk me66a 5295 me66u me66c me66v 5437 me66l
noncomputable def mg120 : GB := (.rw (.c2 (.mk (.mk (n64 1020) (n64 1010) (.b false) (.b false) (n64 0) .ns .ns (.b false) (.b false) .ns (.b false) .ns .ns (.b false) (n64 0) .ns) (.mk .ns (.b false) (.b false) .ns (.b false) .ns .ns (.b false) (n64 2) .ns .ns (.b false) (.b true) .ns (.b false) (.s 5605 0 1 1 1 false)) (.mk .ns .u .u .u .u .u .u .u .u .u .u .u .u .u .u .u) (F.all .u) (F.all .u) (F.all .u) (F.all .u) (F.all .u) (F.all .u) (F.all .u) (F.all .u) (F.all .u) (F.all .u) (F.all .u) (F.all .u) (F.all .u))))
noncomputable def mg121 : GB := (.rw (Cs.putL (L [(n64 1020)]) 0 (Cs.mk 1)))
/-- (*tableau/forest.Forest).Commit -/
noncomputable def me67a : AV := (L [(.p 40 0), (n64 1020)])
noncomputable def me67u : BL := [(39, mg75), (40, mg10), (2320, mg117), (5132, mg16)]
noncomputable def me67c : BL := [(4050, mg114)]
noncomputable def me67l : BL := [(4050, mg120), (5559, mg121), (5605, mg16)]
noncomputable def me67v : AV := (.tup (L [(.s 5559 0 1 1 1 false), .ni]))
noncomputable def me67 : Ent := .mk me67a 5512 me67u me67c me67v 5608 me67l
/-- (*tableau/forest.Forest).Held -/
noncomputable def me68a : AV := (L [(.p 40 0)])
noncomputable def me68u : BL := [(39, mg75), (40, mg10), (2320, mg117), (4050, mg120)]
noncomputable def me68c : BL := []
noncomputable def me68l : BL := [(5645, mg112)]
noncomputable def me68v : AV := (.s 5645 0 1 2 2 false)
noncomputable def me68 : Ent := .mk me68a 5641 me68u me68c me68v 5646 me68l
noncomputable def mg122 : GB := (.rw (Cs.putL (L [(.m 5646), (.m 48)]) 0 (Cs.mk 2)))
/-- (*tableau/uses.Uses).Now -/
noncomputable def me69a : AV := (L [(.p 49 0), (.s 5645 0 1 2 2 false)])
noncomputable def me69u : BL := [(5433, mg103), (5645, mg112)]
noncomputable def me69c : BL := [(49, mg118)]
noncomputable def me69l : BL := [(49, mg122), (5646, mg103)]
noncomputable def me69v : AV := .ns
noncomputable def me69 : Ent := .mk me69a 5646 me69u me69c me69v 5650 me69l
/-- (*tableau/server.Server).feed -/
noncomputable def me70a : AV := (L [(.p 54 0), (n64 1), (.s 3938 0 1 148 148 false)])
noncomputable def me70u : BL := [(1, mg9), (3, mg42), (19, mg43), (38, (.mp (L [(n64 1), (.p 78 0)]))), (40, mg10), (41, (.mp (L [(n64 1010), (.p 2510 0)]))), (42, mg19), (43, mg51), (45, mg52), (54, mg1), (74, mg11), (78, mg4), (81, mg5), (83, mg6), (2510, mg65), (3655, mg16), (3697, (.mp (L [(n64 1), (.b true)]))), (3938, mg72)]
noncomputable def me70c : BL := [(39, (.mp (L [(n64 1010), (.p 2320 0)]))), (44, mg53), (46, (.mp (L [(n64 1), (n64 1013)]))), (49, mg61), (53, mg64), (66, mg56), (73, mg57), (79, mg67), (2320, mg60)]
noncomputable def me70l : BL := [(39, mg75), (44, mg92), (46, mg93), (49, mg122), (53, mg95), (66, mg96), (73, mg97), (79, mg73), (2320, mg117), (3939, mg72), (4050, mg120), (5080, mg90), (5082, mg85), (5394, mg119), (5605, mg16), (5646, mg103)]
noncomputable def me70v : AV := (.tup .nil)
noncomputable def me70 : Ent := .mk me70a 3939 me70u me70c me70v 5880 me70l
noncomputable def mg123 : GB := (.rw (.c3 (.mk (F.all (.mk (n8 1) (n8 0) (n8 0) (n8 255) (n8 1) (n8 0) (n8 0) (n8 255) (n8 1) (n8 0) (n8 0) (n8 255) (n8 1) (n8 0) (n8 0) (n8 255))) (F.all (F.all (n8 0))) (.mk (.mk (n8 255) (n8 0) (n8 0) (n8 255) (n8 0) (n8 0) (n8 0) (n8 0) (n8 0) (n8 0) (n8 0) (n8 0) (n8 0) (n8 0) (n8 0) (n8 0)) (F.all (n8 0)) (F.all (n8 0)) (F.all (n8 0)) (F.all (n8 0)) (F.all (n8 0)) (F.all (n8 0)) (F.all (n8 0)) (F.all (n8 0)) (F.all (n8 0)) (F.all (n8 0)) (F.all (n8 0)) (F.all (n8 0)) (F.all (n8 0)) (F.all (n8 0)) (F.all (n8 0))) (F.all (F.all (n8 0))) (F.all (F.all (n8 0))) (F.all (F.all (n8 0))) (F.all (F.all (n8 0))) (F.all (F.all (n8 0))) (F.all (F.all (n8 0))) (F.all (F.all (n8 0))) (F.all (F.all (n8 0))) (F.all (F.all (n8 0))) (F.all (F.all (n8 0))) (F.all (F.all (n8 0))) (F.all (F.all (n8 0))) (F.all (F.all (n8 0))))))
noncomputable def mg124 : GB := (.rw (.c2 (.mk (F.all (n32 4278190081)) (F.all (n32 4278190081)) (F.all (n32 4278190081)) (F.all (n32 4278190081)) (F.all .u) (F.all .u) (F.all .u) (F.all .u) (F.all .u) (F.all .u) (F.all .u) (F.all .u) (F.all .u) (F.all .u) (F.all .u) (F.all .u))))
/-- tableau/paint.Load -/
noncomputable def me72a : AV := (L [(n64 1), (.agg (L [(n64 1), (n64 0), (n64 8), (n64 8), (n64 32), (n64 0)])), (.p 76 0)])
noncomputable def me72u : BL := [(75, mg2), (76, mg3), (86, mg123)]
noncomputable def me72c : BL := []
noncomputable def me72l : BL := [(6199, mg124)]
noncomputable def me72v : AV := (.agg (L [(n64 1), (n64 8), (n64 8), (.s 6199 0 1 64 64 false)]))
noncomputable def me72 : Ent := .mk me72a 6069 me72u me72c me72v 6200 me72l
noncomputable def mg125 : GB := (.rw (.c3 (.mk (F.all (F.all (n32 4279246896))) (.mk (F.all (n32 4279246896)) (F.all (n32 4279246896)) (F.all (n32 4279246896)) (F.all (n32 4279246896)) (F.all (n32 4279246896)) (F.all (n32 4279246896)) (F.all (n32 4279246896)) (F.all (n32 4279246896)) (F.all .u) (F.all .u) (F.all .u) (F.all .u) (F.all .u) (F.all .u) (F.all .u) (F.all .u)) (F.all (F.all .u)) (F.all (F.all .u)) (F.all (F.all .u)) (F.all (F.all .u)) (F.all (F.all .u)) (F.all (F.all .u)) (F.all (F.all .u)) (F.all (F.all .u)) (F.all (F.all .u)) (F.all (F.all .u)) (F.all (F.all .u)) (F.all (F.all .u)) (F.all (F.all .u)) (F.all (F.all .u)))))
noncomputable def mg126 : GB := (.rw (Cs.putL (L [(n64 24), (n64 16), (.s 34 0 1 384 384 true)]) 0 (Cs.mk 3)))
noncomputable def mg127 : GB := (.rw (Cs.putL (L [(n64 0), (n64 0), (n64 24), (n64 16)]) 0 (Cs.mk 4)))
noncomputable def mg128 : GB := (.rw (Cs.putL (L [(n32 4279246896)]) 0 (Cs.mk 1)))
/-- (*tableau/canvas.Canvas).each -/
noncomputable def me73a : AV := (L [(.p 35 0), (.s 6225 0 4 1 1 true), (.f 132 .nil (L [(.p 6226 0)]))])
noncomputable def me73u : BL := [(34, mg125), (35, mg126), (6225, mg127), (6226, mg128)]
noncomputable def me73c : BL := []
noncomputable def me73l : BL := []
noncomputable def me73v : AV := (.tup .nil)
noncomputable def me73 : Ent := .lo me73a 6227 me73u me73c me73v me73l
noncomputable def mg129 : GB := (.rw (Cs.putL (L [(n64 8)]) 0 (Cs.mk 1)))
noncomputable def mg130 : GB := (.rw (Cs.putL (L [(.s 6199 0 1 64 64 false)]) 0 (Cs.mk 1)))
noncomputable def mg131 : GB := (.rw (Cs.putL (L [(n64 0), (n64 0), (n64 8), (n64 8)]) 0 (Cs.mk 4)))
noncomputable def mg132 : GB := (.rw (.c3 (.mk (.mk (.mk (n32 4278190081) (n32 4278190081) (n32 4278190081) (n32 4278190081) (n32 4278190081) (n32 4278190081) (n32 4278190081) (n32 4278190081) (n32 4279246896) (n32 4279246896) (n32 4279246896) (n32 4279246896) (n32 4279246896) (n32 4279246896) (n32 4279246896) (n32 4279246896)) (.mk (n32 4279246896) (n32 4279246896) (n32 4279246896) (n32 4279246896) (n32 4279246896) (n32 4279246896) (n32 4279246896) (n32 4279246896) (n32 4278190081) (n32 4278190081) (n32 4278190081) (n32 4278190081) (n32 4278190081) (n32 4278190081) (n32 4278190081) (n32 4278190081)) (F.all (n32 4279246896)) (.mk (n32 4278190081) (n32 4278190081) (n32 4278190081) (n32 4278190081) (n32 4278190081) (n32 4278190081) (n32 4278190081) (n32 4278190081) (n32 4279246896) (n32 4279246896) (n32 4279246896) (n32 4279246896) (n32 4279246896) (n32 4279246896) (n32 4279246896) (n32 4279246896)) (.mk (n32 4279246896) (n32 4279246896) (n32 4279246896) (n32 4279246896) (n32 4279246896) (n32 4279246896) (n32 4279246896) (n32 4279246896) (n32 4278190081) (n32 4278190081) (n32 4278190081) (n32 4278190081) (n32 4278190081) (n32 4278190081) (n32 4278190081) (n32 4278190081)) (F.all (n32 4279246896)) (.mk (n32 4278190081) (n32 4278190081) (n32 4278190081) (n32 4278190081) (n32 4278190081) (n32 4278190081) (n32 4278190081) (n32 4278190081) (n32 4279246896) (n32 4279246896) (n32 4279246896) (n32 4279246896) (n32 4279246896) (n32 4279246896) (n32 4279246896) (n32 4279246896)) (.mk (n32 4279246896) (n32 4279246896) (n32 4279246896) (n32 4279246896) (n32 4279246896) (n32 4279246896) (n32 4279246896) (n32 4279246896) (n32 4278190081) (n32 4278190081) (n32 4278190081) (n32 4278190081) (n32 4278190081) (n32 4278190081) (n32 4278190081) (n32 4278190081)) (F.all (n32 4279246896)) (.mk (n32 4278190081) (n32 4278190081) (n32 4278190081) (n32 4278190081) (n32 4278190081) (n32 4278190081) (n32 4278190081) (n32 4278190081) (n32 4279246896) (n32 4279246896) (n32 4279246896) (n32 4279246896) (n32 4279246896) (n32 4279246896) (n32 4279246896) (n32 4279246896)) (.mk (n32 4279246896) (n32 4279246896) (n32 4279246896) (n32 4279246896) (n32 4279246896) (n32 4279246896) (n32 4279246896) (n32 4279246896) (n32 4278190081) (n32 4278190081) (n32 4278190081) (n32 4278190081) (n32 4278190081) (n32 4278190081) (n32 4278190081) (n32 4278190081)) (F.all (n32 4279246896)) (F.all (n32 4279246896)) (F.all (n32 4279246896)) (F.all (n32 4279246896)) (F.all (n32 4279246896))) (.mk (F.all (n32 4279246896)) (F.all (n32 4279246896)) (F.all (n32 4279246896)) (F.all (n32 4279246896)) (F.all (n32 4279246896)) (F.all (n32 4279246896)) (F.all (n32 4279246896)) (F.all (n32 4279246896)) (F.all .u) (F.all .u) (F.all .u) (F.all .u) (F.all .u) (F.all .u) (F.all .u) (F.all .u)) (F.all (F.all .u)) (F.all (F.all .u)) (F.all (F.all .u)) (F.all (F.all .u)) (F.all (F.all .u)) (F.all (F.all .u)) (F.all (F.all .u)) (F.all (F.all .u)) (F.all (F.all .u)) (F.all (F.all .u)) (F.all (F.all .u)) (F.all (F.all .u)) (F.all (F.all .u)) (F.all (F.all .u)))))
/-- (*tableau/canvas.Canvas).each -/
noncomputable def me74a : AV := (L [(.p 35 0), (.s 6225 0 4 1 1 true), (.f 228 .nil (L [(.p 6232 0), (.p 6233 0), (.p 6231 0), (.p 6235 0), (.p 6234 0)]))])
noncomputable def me74u : BL := [(35, mg126), (6199, mg124), (6225, mg127), (6231, mg16), (6232, mg16), (6233, mg129), (6234, mg130), (6235, mg131)]
noncomputable def me74c : BL := [(34, mg125)]
noncomputable def me74l : BL := [(34, mg132)]
noncomputable def me74v : AV := (.tup .nil)
noncomputable def me74 : Ent := .lo me74a 6236 me74u me74c me74v me74l
noncomputable def mg133 : GB := (.rw (.c2 (.mk (.mk (n8 3) (n8 0) (n8 0) (n8 0) (n8 0) (n8 0) (n8 12) (n8 0) (n8 20) (n8 0) (n8 0) (n8 0) (n8 5) (n8 0) (n8 0) (n8 0)) (.mk (n8 1) (n8 0) (n8 20) (n8 0) (n8 21) (n8 0) (n8 0) (n8 0) (n8 20) (n8 0) (n8 0) (n8 0) (n8 10) (n8 0) (n8 0) (n8 0)) (.mk (n8 21) (n8 0) (n8 0) (n8 0) (n8 1) (n8 0) (n8 16) (n8 0) (.q .u8 0) (n8 0) (n8 0) (n8 0) (.q .u8 1) (n8 0) (n8 0) (n8 0)) (.mk (n8 8) (n8 0) (n8 0) (n8 0) (n8 0) (n8 0) (n8 32) (n8 0) (n8 22) (n8 0) (n8 0) (n8 0) (n8 0) (n8 2) (n8 0) (n8 0)) (.mk (n8 1) (n8 0) (n8 0) (n8 0) (n8 1) (n8 0) (n8 0) (n8 0) (n8 4) (n8 0) (n8 0) (n8 0) (n8 0) (n8 0) (n8 0) (n8 0)) (.mk (n8 20) (n8 0) (n8 0) (n8 0) (n8 1) (n8 0) (n8 20) (n8 0) (n8 22) (n8 0) (n8 0) (n8 0) (n8 0) (n8 0) (n8 0) (n8 0)) (.mk (n8 0) (n8 0) (n8 0) (n8 0) (n8 20) (n8 0) (n8 0) (n8 0) (n8 5) (n8 0) (n8 8) (n8 0) (n8 10) (n8 0) (n8 0) (n8 0)) (.mk (n8 5) (n8 0) (n8 8) (n8 0) (n8 21) (n8 0) (n8 0) (n8 0) (n8 5) (n8 0) (n8 8) (n8 0) (n8 21) (n8 0) (n8 0) (n8 0)) (.mk (n8 1) (n8 0) (n8 16) (n8 0) (.q .u8 2) (n8 0) (n8 0) (n8 0) (.q .u8 3) (n8 0) (n8 0) (n8 0) (n8 20) (n8 0) (n8 0) (n8 0)) (.mk (n8 5) (n8 0) (n8 8) (n8 0) (n8 10) (n8 0) (n8 0) (n8 0) (n8 5) (n8 0) (n8 8) (n8 0) .u .u .u .u) (F.all .u) (F.all .u) (F.all .u) (F.all .u) (F.all .u) (F.all .u))))
noncomputable def mg134 : GB := (.rw (Cs.putL (L [(.s 3944 148 1 0 0 true), .ni]) 0 (Cs.mk 2)))
noncomputable def mg135 : GB := (.rw (.c2 (.mk (.mk (n64 3) (n64 0) (.str [20, 0, 0, 0]) (n64 5) (n64 1) (.str [21, 0, 0, 0, 20, 0, 0, 0, 10, 0, 0, 0]) (n64 21) (n64 1) (.str [256, 0, 0, 0, 257, 0, 0, 0]) (n64 8) (n64 0) (.str [22, 0, 0, 0, 0, 2, 0, 0, 1, 0, 0, 0, 1, 0, 0, 0, 4, 0, 0, 0, 0, 0, 0, 0]) (n64 20) (n64 1) (.str [22, 0, 0, 0, 0, 0, 0, 0, 0, 0, 0, 0]) (n64 20)) (.mk (n64 5) (.str []) (n64 10) (n64 5) (.str []) (n64 21) (n64 5) (.str []) (n64 21) (n64 1) (.str [258, 0, 0, 0, 259, 0, 0, 0]) (n64 20) (n64 5) (.str []) (n64 10) (n64 5)) (.mk (.str []) .u .u .u .u .u .u .u .u .u .u .u .u .u .u .u) (F.all .u) (F.all .u) (F.all .u) (F.all .u) (F.all .u) (F.all .u) (F.all .u) (F.all .u) (F.all .u) (F.all .u) (F.all .u) (F.all .u) (F.all .u))))
/-- (*tableau/reader.Reader).Feed -/
noncomputable def me78a : AV := (L [(.p 79 0), (.s 3943 0 1 156 156 false)])
noncomputable def me78u : BL := [(3, mg42), (19, mg43), (3943, mg133)]
noncomputable def me78c : BL := [(79, mg67)]
noncomputable def me78l : BL := [(79, mg134), (3944, mg133), (3966, mg135)]
noncomputable def me78v : AV := (.tup (L [(.s 3966 0 3 11 11 false), .ni]))
noncomputable def me78 : Ent := .mk me78a 3944 me78u me78c me78v 3967 me78l
noncomputable def mg136 : GB := (.mp (L [(n64 1010), (.p 2320 0), (n64 1020), (.p 4057 0)]))
noncomputable def mg137 : GB := (.rw (.c2 (.mk (.mk (n64 1020) (n64 0) (.b false) (.b false) (n64 0) .ns .ns (.b false) (.b false) .ns (.b false) .ns .ns (.b false) (n64 0) .ns) (.mk .ns (.b false) (.b false) .ns (.b false) .ns .ns (.b false) (n64 0) .ns .ns (.b false) (.b true) .ns (.b false) (.s 4056 0 1 1 1 true)) (.mk .ns .u .u .u .u .u .u .u .u .u .u .u .u .u .u .u) (F.all .u) (F.all .u) (F.all .u) (F.all .u) (F.all .u) (F.all .u) (F.all .u) (F.all .u) (F.all .u) (F.all .u) (F.all .u) (F.all .u) (F.all .u))))
/-- (*tableau/forest.Forest).Held -/
noncomputable def me79a : AV := (L [(.p 40 0)])
noncomputable def me79u : BL := [(39, mg136), (40, mg10), (2320, mg60), (4057, mg137)]
noncomputable def me79c : BL := []
noncomputable def me79l : BL := [(4095, mg77)]
noncomputable def me79v : AV := (.s 4095 0 1 1 2 false)
noncomputable def me79 : Ent := .mk me79a 4091 me79u me79c me79v 4096 me79l
noncomputable def mg138 : GB := (.rw (Cs.putL (L [(.m 4096), (.m 48)]) 0 (Cs.mk 2)))
/-- (*tableau/desk.Desk).Handle -/
noncomputable def me80a : AV := (L [(.p 53 0), (n64 1), (.agg (L [(n64 3), (n64 0), (.str [20, 0, 0, 0])]))])
noncomputable def me80u : BL := [(1, mg9), (38, (.mp (L [(n64 1), (.p 78 0)]))), (40, mg10), (53, mg64), (74, mg11), (78, mg4), (2320, mg60), (3697, (.mp (L [(n64 1), (.b true)])))]
noncomputable def me80c : BL := [(39, (.mp (L [(n64 1010), (.p 2320 0)]))), (49, mg61), (73, mg57)]
noncomputable def me80l : BL := [(39, mg136), (49, mg138), (73, mg79), (4056, mg16), (4057, mg137), (4096, (.mp (L [(n64 1), (.b true)])))]
noncomputable def me80v : AV := .ni
noncomputable def me80 : Ent := .mk me80a 3968 me80u me80c me80v 4100 me80l
noncomputable def mg139 : GB := (.rw (.c2 (.mk (.mk (n64 1010) (n64 0) (.b false) (.b false) (n64 0) .ns .ns (.b false) (.b false) .ns (.b true) (.s 4215 0 1 2 2 false) (.s 4219 0 3 1 1 false) (.b false) (n64 0) .ns) (.mk .ns (.b false) (.b false) .ns (.b false) .ns .ns (.b false) (n64 1) .ns .ns (.b false) (.b true) .ns (.b false) (.s 3655 0 1 1 1 false)) (.mk .ns .u .u .u .u .u .u .u .u .u .u .u .u .u .u .u) (F.all .u) (F.all .u) (F.all .u) (F.all .u) (F.all .u) (F.all .u) (F.all .u) (F.all .u) (F.all .u) (F.all .u) (F.all .u) (F.all .u) (F.all .u))))
noncomputable def mg140 : GB := (.rw (.c2 (.mk (.mk (n64 1020) (n64 1010) (.b true) (.b false) (n64 0) .ns .ns (.b false) (.b false) .ns (.b false) .ns .ns (.b false) (n64 0) .ns) (.mk .ns (.b false) (.b false) .ns (.b false) .ns .ns (.b false) (n64 0) .ns .ns (.b false) (.b true) .ns (.b false) (.s 4056 0 1 1 1 true)) (.mk .ns .u .u .u .u .u .u .u .u .u .u .u .u .u .u .u) (F.all .u) (F.all .u) (F.all .u) (F.all .u) (F.all .u) (F.all .u) (F.all .u) (F.all .u) (F.all .u) (F.all .u) (F.all .u) (F.all .u) (F.all .u))))
/-- (*tableau/forest.Forest).Held -/
noncomputable def me81a : AV := (L [(.p 40 0)])
noncomputable def me81u : BL := [(39, mg136), (40, mg10), (2320, mg139), (4057, mg140)]
noncomputable def me81c : BL := []
noncomputable def me81l : BL := [(4257, mg77)]
noncomputable def me81v : AV := (.s 4257 0 1 1 2 false)
noncomputable def me81 : Ent := .mk me81a 4253 me81u me81c me81v 4258 me81l
noncomputable def mg141 : GB := (.rw (Cs.putL (L [(.m 4258), (.m 48)]) 0 (Cs.mk 2)))
/-- (*tableau/desk.Desk).Handle -/
noncomputable def me82a : AV := (L [(.p 53 0), (n64 1), (.agg (L [(n64 5), (n64 1), (.str [21, 0, 0, 0, 20, 0, 0, 0, 10, 0, 0, 0])]))])
noncomputable def me82u : BL := [(1, mg9), (38, (.mp (L [(n64 1), (.p 78 0)]))), (39, mg136), (40, mg10), (41, (.mp (L [(n64 1010), (.p 2510 0)]))), (42, mg19), (53, mg64), (74, mg11), (78, mg4), (3655, mg16), (4096, (.mp (L [(n64 1), (.b true)])))]
noncomputable def me82c : BL := [(49, mg138), (66, mg56), (73, mg79), (2320, mg60), (4057, mg137)]
noncomputable def me82l : BL := [(49, mg141), (66, mg83), (73, mg84), (2320, mg139), (4057, mg140), (4215, mg85), (4219, mg86), (4258, (.mp (L [(n64 1), (.b true)])))]
noncomputable def me82v : AV := .ni
noncomputable def me82 : Ent := .mk me82a 4101 me82u me82c me82v 4262 me82l
/-- tableau/wire.Get -/
noncomputable def me83a : AV := (L [(.agg (L [(n64 21), (n64 1), (.str [256, 0, 0, 0, 257, 0, 0, 0])])), (.str [105, 105])])
noncomputable def me83u : BL := [(1, mg9)]
noncomputable def me83c : BL := []
noncomputable def me83l : BL := [(4312, mg87)]
noncomputable def me83v : AV := (.tup (L [(.agg (L [(n64 21), (n64 1), (.s 4312 0 3 2 2 false)])), .ni]))
noncomputable def me83 : Ent := .mk me83a 4297 me83u me83c me83v 4318 me83l
noncomputable def mg142 : GB := (.rw (.c2 (.mk (.mk (n64 1010) (n64 0) (.b false) (.b false) (n64 0) .ns .ns (.b false) (.b false) .ns (.b true) (.s 4215 0 1 2 2 false) (.s 4361 0 3 1 1 false) (.b false) (n64 0) .ns) (.mk .ns (.b false) (.b false) .ns (.b false) .ns .ns (.b false) (n64 1) .ns .ns (.b false) (.b true) .ns (.b false) (.s 3655 0 1 1 1 false)) (.mk .ns .u .u .u .u .u .u .u .u .u .u .u .u .u .u .u) (F.all .u) (F.all .u) (F.all .u) (F.all .u) (F.all .u) (F.all .u) (F.all .u) (F.all .u) (F.all .u) (F.all .u) (F.all .u) (F.all .u) (F.all .u))))
/-- (*tableau/forest.Forest).Held -/
noncomputable def me84a : AV := (L [(.p 40 0)])
noncomputable def me84u : BL := [(39, mg136), (40, mg10), (2320, mg142), (4057, mg140)]
noncomputable def me84c : BL := []
noncomputable def me84l : BL := [(4399, mg77)]
noncomputable def me84v : AV := (.s 4399 0 1 1 2 false)
noncomputable def me84 : Ent := .mk me84a 4395 me84u me84c me84v 4400 me84l
noncomputable def mg143 : GB := (.rw (Cs.putL (L [(.m 4400), (.m 48)]) 0 (Cs.mk 2)))
/-- (*tableau/desk.Desk).Handle -/
noncomputable def me85a : AV := (L [(.p 53 0), (n64 1), (.agg (L [(n64 21), (n64 1), (.str [256, 0, 0, 0, 257, 0, 0, 0])]))])
noncomputable def me85u : BL := [(1, mg9), (38, (.mp (L [(n64 1), (.p 78 0)]))), (39, mg136), (40, mg10), (53, mg64), (66, mg83), (73, mg84), (74, mg11), (78, mg4), (4057, mg140), (4219, mg86), (4258, (.mp (L [(n64 1), (.b true)])))]
noncomputable def me85c : BL := [(49, mg141), (2320, mg139)]
noncomputable def me85l : BL := [(49, mg143), (2320, mg142), (4361, mg90), (4400, (.mp (L [(n64 1), (.b true)])))]
noncomputable def me85v : AV := .ni
noncomputable def me85 : Ent := .mk me85a 4263 me85u me85c me85v 4404 me85l
/-- tableau/wire.Get -/
noncomputable def me86a : AV := (L [(.agg (L [(n64 8), (n64 0), (.str [22, 0, 0, 0, 0, 2, 0, 0, 1, 0, 0, 0, 1, 0, 0, 0, 4, 0, 0, 0, 0, 0, 0, 0])])), (.str [110, 105, 105, 105, 105, 117])])
noncomputable def me86u : BL := [(1, mg9)]
noncomputable def me86c : BL := []
noncomputable def me86l : BL := [(4478, mg91)]
noncomputable def me86v : AV := (.tup (L [(.agg (L [(n64 8), (n64 0), (.s 4478 0 3 6 6 false)])), .ni]))
noncomputable def me86 : Ent := .mk me86a 4439 me86u me86c me86v 4492 me86l
/-- (*tableau/forest.Forest).Held -/
noncomputable def me87a : AV := (L [(.p 40 0)])
noncomputable def me87u : BL := [(39, mg136), (40, mg10), (2320, mg142), (4057, mg140)]
noncomputable def me87c : BL := []
noncomputable def me87l : BL := [(4586, mg77)]
noncomputable def me87v : AV := (.s 4586 0 1 1 2 false)
noncomputable def me87 : Ent := .mk me87a 4582 me87u me87c me87v 4587 me87l
noncomputable def mg144 : GB := (.rw (Cs.putL (L [(.m 4587), (.m 48)]) 0 (Cs.mk 2)))
/-- (*tableau/desk.Desk).Handle -/
noncomputable def me88a : AV := (L [(.p 53 0), (n64 1), (.agg (L [(n64 8), (n64 0), (.str [22, 0, 0, 0, 0, 2, 0, 0, 1, 0, 0, 0, 1, 0, 0, 0, 4, 0, 0, 0, 0, 0, 0, 0])]))])
noncomputable def me88u : BL := [(1, mg9), (38, (.mp (L [(n64 1), (.p 78 0)]))), (39, mg136), (40, mg10), (43, mg51), (45, mg52), (74, mg11), (78, mg4), (2320, mg142), (4057, mg140), (4400, (.mp (L [(n64 1), (.b true)])))]
noncomputable def me88c : BL := [(44, mg53), (46, (.mp (L [(n64 1), (n64 1013)]))), (49, mg143), (53, mg64), (66, mg83), (73, mg84)]
noncomputable def me88l : BL := [(44, mg92), (46, mg93), (49, mg144), (53, mg95), (66, mg96), (73, mg97), (4587, (.mp (L [(n64 1), (.b true)])))]
noncomputable def me88v : AV := .ni
noncomputable def me88 : Ent := .mk me88a 4405 me88u me88c me88v 4591 me88l
noncomputable def mg145 : GB := (.rw (.c2 (.mk (.mk (n64 1020) (n64 1010) (.b true) (.b true) (n64 2) .ns .ns (.b false) (.b false) .ns (.b false) .ns .ns (.b false) (n64 0) .ns) (.mk .ns (.b false) (.b false) .ns (.b false) .ns .ns (.b false) (n64 0) .ns .ns (.b false) (.b true) .ns (.b false) (.s 4056 0 1 1 1 true)) (.mk .ns .u .u .u .u .u .u .u .u .u .u .u .u .u .u .u) (F.all .u) (F.all .u) (F.all .u) (F.all .u) (F.all .u) (F.all .u) (F.all .u) (F.all .u) (F.all .u) (F.all .u) (F.all .u) (F.all .u) (F.all .u))))
/-- (*tableau/forest.Forest).Held -/
noncomputable def me89a : AV := (L [(.p 40 0)])
noncomputable def me89u : BL := [(39, mg136), (40, mg10), (2320, mg142), (4057, mg145)]
noncomputable def me89c : BL := []
noncomputable def me89l : BL := [(4738, mg77)]
noncomputable def me89v : AV := (.s 4738 0 1 1 2 false)
noncomputable def me89 : Ent := .mk me89a 4734 me89u me89c me89v 4739 me89l
noncomputable def mg146 : GB := (.rw (Cs.putL (L [(.m 4739), (.m 48)]) 0 (Cs.mk 2)))
/-- (*tableau/desk.Desk).Handle -/
noncomputable def me90a : AV := (L [(.p 53 0), (n64 1), (.agg (L [(n64 20), (n64 1), (.str [22, 0, 0, 0, 0, 0, 0, 0, 0, 0, 0, 0])]))])
noncomputable def me90u : BL := [(1, mg9), (38, (.mp (L [(n64 1), (.p 78 0)]))), (39, mg136), (40, mg10), (53, mg95), (66, mg96), (73, mg97), (74, mg11), (78, mg4), (2320, mg142), (4587, (.mp (L [(n64 1), (.b true)])))]
noncomputable def me90c : BL := [(49, mg144), (4057, mg140)]
noncomputable def me90l : BL := [(49, mg146), (4057, mg145), (4739, (.mp (L [(n64 1), (.b true)])))]
noncomputable def me90v : AV := .ni
noncomputable def me90 : Ent := .mk me90a 4592 me90u me90c me90v 4743 me90l
noncomputable def mg147 : GB := (.rw (.c2 (.mk (.mk (n64 1020) (n64 1010) (.b true) (.b false) (n64 0) .ns .ns (.b false) (.b false) .ns (.b false) .ns .ns (.b true) (n64 2) .ns) (.mk .ns (.b false) (.b false) .ns (.b false) .ns .ns (.b false) (n64 0) .ns .ns (.b false) (.b true) .ns (.b false) (.s 4056 0 1 1 1 true)) (.mk .ns .u .u .u .u .u .u .u .u .u .u .u .u .u .u .u) (F.all .u) (F.all .u) (F.all .u) (F.all .u) (F.all .u) (F.all .u) (F.all .u) (F.all .u) (F.all .u) (F.all .u) (F.all .u) (F.all .u) (F.all .u))))
/-- (*tableau/forest.Forest).Held -/
noncomputable def me91a : AV := (L [(.p 40 0)])
noncomputable def me91u : BL := [(39, mg136), (40, mg10), (2320, mg142), (4057, mg147)]
noncomputable def me91c : BL := []
noncomputable def me91l : BL := [(4901, mg101)]
noncomputable def me91v : AV := (.s 4901 0 1 2 3 false)
noncomputable def me91 : Ent := .mk me91a 4895 me91u me91c me91v 4902 me91l
noncomputable def mg148 : GB := (.rw (Cs.putL (L [(.m 4902), (.m 48)]) 0 (Cs.mk 2)))
/-- (*tableau/uses.Uses).Now -/
noncomputable def me92a : AV := (L [(.p 49 0), (.s 4901 0 1 2 3 false)])
noncomputable def me92u : BL := [(4739, (.mp (L [(n64 1), (.b true)]))), (4901, mg101)]
noncomputable def me92c : BL := [(49, mg146)]
noncomputable def me92l : BL := [(49, mg148), (4902, mg103)]
noncomputable def me92v : AV := .ns
noncomputable def me92 : Ent := .mk me92a 4902 me92u me92c me92v 4906 me92l
/-- (*tableau/desk.Desk).Handle -/
noncomputable def me93a : AV := (L [(.p 53 0), (n64 1), (.agg (L [(n64 20), (n64 5), (.str [])]))])
noncomputable def me93u : BL := [(1, mg9), (38, (.mp (L [(n64 1), (.p 78 0)]))), (39, mg136), (40, mg10), (41, (.mp (L [(n64 1010), (.p 2510 0)]))), (42, mg19), (53, mg95), (73, mg97), (74, mg11), (78, mg4), (2320, mg142), (4739, (.mp (L [(n64 1), (.b true)])))]
noncomputable def me93c : BL := [(49, mg146), (4057, mg145)]
noncomputable def me93l : BL := [(49, mg148), (4057, mg147), (4902, mg103)]
noncomputable def me93v : AV := .ni
noncomputable def me93 : Ent := .mk me93a 4744 me93u me93c me93v 4906 me93l
/-- (*tableau/desk.request).coming -/
noncomputable def me94a : AV := (L [(.p 4947 0), (n64 1010)])
noncomputable def me94u : BL := [(39, mg136), (40, mg10), (53, mg95), (2320, mg142), (3655, mg16), (4215, mg85), (4361, mg90), (4947, mg28)]
noncomputable def me94c : BL := []
noncomputable def me94l : BL := []
noncomputable def me94v : AV := (.tup (L [(.b false), (n64 1)]))
noncomputable def me94 : Ent := .lo me94a 4948 me94u me94c me94v me94l
noncomputable def mg149 : GB := (.rw (Cs.putL (L [(.f 341 .nil (L [(.p 4981 0), (.p 5032 0), (.p 5033 0)]))]) 0 (Cs.mk 1)))
noncomputable def mg150 : GB := (.rw (.c2 (.mk (.mk (n64 1010) (n64 0) (.b false) (.b false) (n64 0) .ns .ns (.b false) (.b false) .ns (.b false) .ns .ns (.b false) (n64 0) .ns) (.mk .ns (.b false) (.b false) .ns (.b true) (.s 5031 0 1 2 2 false) (.s 5029 0 3 1 1 false) (.b false) (n64 1) .ns .ns (.b false) (.b true) .ns (.b false) (.s 3655 0 1 1 1 false)) (.mk .ns .u .u .u .u .u .u .u .u .u .u .u .u .u .u .u) (F.all .u) (F.all .u) (F.all .u) (F.all .u) (F.all .u) (F.all .u) (F.all .u) (F.all .u) (F.all .u) (F.all .u) (F.all .u) (F.all .u) (F.all .u))))
noncomputable def mg151 : GB := (.rw (Cs.putL (L [(.s 5035 0 1 1 1 false)]) 0 (Cs.mk 1)))
noncomputable def mg152 : GB := (.rw (.c2 (.mk (.mk (n64 1010) (n64 0) (.b false) (.b false) (n64 0) .ns .ns (.b false) (.b false) .ns (.b false) .ns .ns (.b false) (n64 0) .ns) (.mk .ns (.b false) (.b false) .ns (.b false) .ns .ns (.b false) (n64 1) .ns .ns (.b false) (.b true) .ns (.b false) (.s 5089 0 1 2 2 false)) (.mk (.s 5087 0 3 1 1 false) .u .u .u .u .u .u .u .u .u .u .u .u .u .u .u) (F.all .u) (F.all .u) (F.all .u) (F.all .u) (F.all .u) (F.all .u) (F.all .u) (F.all .u) (F.all .u) (F.all .u) (F.all .u) (F.all .u) (F.all .u))))
noncomputable def mg153 : GB := (.rw (.c2 (.mk (.mk (n64 1020) (n64 1010) (.b true) (.b false) (n64 0) .ns .ns (.b false) (.b false) .ns (.b false) .ns .ns (.b false) (n64 0) .ns) (.mk .ns (.b false) (.b false) .ns (.b false) .ns .ns (.b false) (n64 2) .ns .ns (.b false) (.b true) .ns (.b false) (.s 5139 0 1 1 1 false)) (.mk .ns .u .u .u .u .u .u .u .u .u .u .u .u .u .u .u) (F.all .u) (F.all .u) (F.all .u) (F.all .u) (F.all .u) (F.all .u) (F.all .u) (F.all .u) (F.all .u) (F.all .u) (F.all .u) (F.all .u) (F.all .u))))
noncomputable def mg154 : GB := (.rw (Cs.putL (L [(.s 5093 0 1 2 2 false)]) 0 (Cs.mk 1)))
/-- (*tableau/forest.Forest).Commit$1 -/
noncomputable def me95a : AV := (L [(.p 2320 0), (.p 4981 0), (.p 5032 0), (.p 5033 0)])
noncomputable def me95u : BL := [(39, mg136), (40, mg10), (3655, mg16), (4056, mg16), (4981, mg104), (5029, mg90), (5031, mg85), (5033, mg149)]
noncomputable def me95c : BL := [(2320, mg150), (4057, mg147), (5032, mg151), (5035, mg30)]
noncomputable def me95l : BL := [(2320, mg152), (4057, mg153), (5032, mg154), (5087, mg90), (5089, mg85), (5093, mg111), (5139, mg16)]
noncomputable def me95v : AV := (.tup .nil)
noncomputable def me95 : Ent := .mk me95a 5036 me95u me95c me95v 5142 me95l
/-- (*tableau/desk.request).act -/
noncomputable def me96a : AV := (L [(.p 4947 0)])
noncomputable def me96u : BL := [(39, mg136), (40, mg10), (41, (.mp (L [(n64 1010), (.p 2510 0)]))), (42, mg19), (53, mg95), (2510, mg65), (3655, mg16), (4056, mg16), (4215, mg85), (4361, mg90), (4947, mg28)]
noncomputable def me96c : BL := [(2320, mg142), (4057, mg147)]
noncomputable def me96l : BL := [(2320, mg152), (4057, mg153), (5087, mg90), (5089, mg85), (5139, mg16)]
noncomputable def me96v : AV := .ni
noncomputable def me96 : Ent := .mk me96a 4981 me96u me96c me96v 5142 me96l
/-- (*tableau/forest.Forest).Held -/
noncomputable def me97a : AV := (L [(.p 40 0)])
noncomputable def me97u : BL := [(39, mg136), (40, mg10), (2320, mg152), (4057, mg153)]
noncomputable def me97c : BL := []
noncomputable def me97l : BL := [(5179, mg112)]
noncomputable def me97v : AV := (.s 5179 0 1 2 2 false)
noncomputable def me97 : Ent := .mk me97a 5175 me97u me97c me97v 5180 me97l
noncomputable def mg155 : GB := (.rw (Cs.putL (L [(.m 5180), (.m 48)]) 0 (Cs.mk 2)))
/-- (*tableau/uses.Uses).Now -/
noncomputable def me98a : AV := (L [(.p 49 0), (.s 5179 0 1 2 2 false)])
noncomputable def me98u : BL := [(4902, mg103), (5179, mg112)]
noncomputable def me98c : BL := [(49, mg148)]
noncomputable def me98l : BL := [(49, mg155), (5180, mg103)]
noncomputable def me98v : AV := .ns
noncomputable def me98 : Ent := .mk me98a 5180 me98u me98c me98v 5184 me98l
noncomputable def mg156 : GB := (.rw (.c2 (.mk (.mk (n64 1020) (n64 1010) (.b false) (.b false) (n64 0) .ns .ns (.b false) (.b false) .ns (.b false) .ns .ns (.b false) (n64 0) .ns) (.mk .ns (.b false) (.b false) .ns (.b false) .ns .ns (.b false) (n64 2) .ns .ns (.b false) (.b true) .ns (.b false) (.s 5139 0 1 1 1 false)) (.mk .ns .u .u .u .u .u .u .u .u .u .u .u .u .u .u .u) (F.all .u) (F.all .u) (F.all .u) (F.all .u) (F.all .u) (F.all .u) (F.all .u) (F.all .u) (F.all .u) (F.all .u) (F.all .u) (F.all .u) (F.all .u))))
/-- (*tableau/forest.Forest).Held -/
noncomputable def me99a : AV := (L [(.p 40 0)])
noncomputable def me99u : BL := [(39, mg136), (40, mg10), (2320, mg152), (4057, mg156)]
noncomputable def me99c : BL := []
noncomputable def me99l : BL := [(5296, mg112)]
noncomputable def me99v : AV := (.s 5296 0 1 2 2 false)
noncomputable def me99 : Ent := .mk me99a 5292 me99u me99c me99v 5297 me99l
noncomputable def mg157 : GB := (.rw (Cs.putL (L [(.m 5297), (.m 48)]) 0 (Cs.mk 2)))
/-- (*tableau/uses.Uses).Now -/
noncomputable def me100a : AV := (L [(.p 49 0), (.s 5296 0 1 2 2 false)])
noncomputable def me100u : BL := [(5180, mg103), (5296, mg112)]
noncomputable def me100c : BL := [(49, mg155)]
noncomputable def me100l : BL := [(49, mg157), (5297, mg103)]
noncomputable def me100v : AV := .ns
noncomputable def me100 : Ent := .mk me100a 5297 me100u me100c me100v 5301 me100l
/-- tableau/wire.Get -/
noncomputable def me101a : AV := (L [(.agg (L [(n64 21), (n64 1), (.str [258, 0, 0, 0, 259, 0, 0, 0])])), (.str [105, 105])])
noncomputable def me101u : BL := [(1, mg9)]
noncomputable def me101c : BL := []
noncomputable def me101l : BL := [(5351, mg116)]
noncomputable def me101v : AV := (.tup (L [(.agg (L [(n64 21), (n64 1), (.s 5351 0 3 2 2 false)])), .ni]))
noncomputable def me101 : Ent := .mk me101a 5336 me101u me101c me101v 5357 me101l
noncomputable def mg158 : GB := (.rw (.c2 (.mk (.mk (n64 1010) (n64 0) (.b false) (.b false) (n64 0) .ns .ns (.b false) (.b false) .ns (.b false) .ns (.s 5401 0 3 1 1 false) (.b false) (n64 0) .ns) (.mk .ns (.b false) (.b false) .ns (.b false) .ns .ns (.b false) (n64 1) .ns .ns (.b false) (.b true) .ns (.b false) (.s 5089 0 1 2 2 false)) (.mk (.s 5087 0 3 1 1 false) .u .u .u .u .u .u .u .u .u .u .u .u .u .u .u) (F.all .u) (F.all .u) (F.all .u) (F.all .u) (F.all .u) (F.all .u) (F.all .u) (F.all .u) (F.all .u) (F.all .u) (F.all .u) (F.all .u) (F.all .u))))
/-- (*tableau/forest.Forest).Held -/
noncomputable def me102a : AV := (L [(.p 40 0)])
noncomputable def me102u : BL := [(39, mg136), (40, mg10), (2320, mg158), (4057, mg156)]
noncomputable def me102c : BL := []
noncomputable def me102l : BL := [(5439, mg112)]
noncomputable def me102v : AV := (.s 5439 0 1 2 2 false)
noncomputable def me102 : Ent := .mk me102a 5435 me102u me102c me102v 5440 me102l
noncomputable def mg159 : GB := (.rw (Cs.putL (L [(.m 5440), (.m 48)]) 0 (Cs.mk 2)))
/-- (*tableau/uses.Uses).Now -/
noncomputable def me103a : AV := (L [(.p 49 0), (.s 5439 0 1 2 2 false)])
noncomputable def me103u : BL := [(5297, mg103), (5439, mg112)]
noncomputable def me103c : BL := [(49, mg157)]
noncomputable def me103l : BL := [(49, mg159), (5440, mg103)]
noncomputable def me103v : AV := .ns
noncomputable def me103 : Ent := .mk me103a 5440 me103u me103c me103v 5444 me103l
/-- (*tableau/desk.Desk).Handle -/
noncomputable def me104a : AV := (L [(.p 53 0), (n64 1), (.agg (L [(n64 21), (n64 1), (.str [258, 0, 0, 0, 259, 0, 0, 0])]))])
noncomputable def me104u : BL := [(1, mg9), (38, (.mp (L [(n64 1), (.p 78 0)]))), (39, mg136), (40, mg10), (53, mg95), (66, mg96), (73, mg97), (74, mg11), (78, mg4), (4057, mg156), (5297, mg103)]
noncomputable def me104c : BL := [(49, mg157), (2320, mg152)]
noncomputable def me104l : BL := [(49, mg159), (2320, mg158), (5401, mg119), (5440, mg103)]
noncomputable def me104v : AV := .ni
noncomputable def me104 : Ent := .mk me104a 5302 me104u me104c me104v 5444 me104l
noncomputable def mg160 : GB := (.rw (.c2 (.mk (.mk (n64 1020) (n64 1010) (.b false) (.b false) (n64 0) .ns .ns (.b false) (.b false) .ns (.b false) .ns .ns (.b false) (n64 0) .ns) (.mk .ns (.b false) (.b false) .ns (.b false) .ns .ns (.b false) (n64 2) .ns .ns (.b false) (.b true) .ns (.b false) (.s 5612 0 1 1 1 false)) (.mk .ns .u .u .u .u .u .u .u .u .u .u .u .u .u .u .u) (F.all .u) (F.all .u) (F.all .u) (F.all .u) (F.all .u) (F.all .u) (F.all .u) (F.all .u) (F.all .u) (F.all .u) (F.all .u) (F.all .u) (F.all .u))))
/-- (*tableau/forest.Forest).Commit -/
noncomputable def me105a : AV := (L [(.p 40 0), (n64 1020)])
noncomputable def me105u : BL := [(39, mg136), (40, mg10), (2320, mg158), (5139, mg16)]
noncomputable def me105c : BL := [(4057, mg156)]
noncomputable def me105l : BL := [(4057, mg160), (5566, mg121), (5612, mg16)]
noncomputable def me105v : AV := (.tup (L [(.s 5566 0 1 1 1 false), .ni]))
noncomputable def me105 : Ent := .mk me105a 5519 me105u me105c me105v 5615 me105l
/-- (*tableau/forest.Forest).Held -/
noncomputable def me106a : AV := (L [(.p 40 0)])
noncomputable def me106u : BL := [(39, mg136), (40, mg10), (2320, mg158), (4057, mg160)]
noncomputable def me106c : BL := []
noncomputable def me106l : BL := [(5652, mg112)]
noncomputable def me106v : AV := (.s 5652 0 1 2 2 false)
noncomputable def me106 : Ent := .mk me106a 5648 me106u me106c me106v 5653 me106l
noncomputable def mg161 : GB := (.rw (Cs.putL (L [(.m 5653), (.m 48)]) 0 (Cs.mk 2)))
/-- (*tableau/uses.Uses).Now -/
noncomputable def me107a : AV := (L [(.p 49 0), (.s 5652 0 1 2 2 false)])
noncomputable def me107u : BL := [(5440, mg103), (5652, mg112)]
noncomputable def me107c : BL := [(49, mg159)]
noncomputable def me107l : BL := [(49, mg161), (5653, mg103)]
noncomputable def me107v : AV := .ns
noncomputable def me107 : Ent := .mk me107a 5653 me107u me107c me107v 5657 me107l
/-- (*tableau/desk.request).coming -/
noncomputable def me108a : AV := (L [(.p 5698 0), (n64 1010)])
noncomputable def me108u : BL := [(39, mg136), (40, mg10), (53, mg95), (2320, mg158), (5087, mg90), (5089, mg85), (5401, mg119), (5698, mg28)]
noncomputable def me108c : BL := []
noncomputable def me108l : BL := []
noncomputable def me108v : AV := (.tup (L [(.b false), (n64 1)]))
noncomputable def me108 : Ent := .lo me108a 5699 me108u me108c me108v me108l
noncomputable def mg162 : GB := (.rw (.c2 (.mk (.mk (n64 1010) (n64 0) (.b false) (.b false) (n64 0) .ns .ns (.b false) (.b false) .ns (.b false) .ns .ns (.b false) (n64 0) .ns) (.mk .ns (.b false) (.b false) .ns (.b false) .ns .ns (.b false) (n64 1) .ns .ns (.b false) (.b true) .ns (.b false) (.s 5830 0 1 2 2 false)) (.mk (.s 5836 0 3 1 1 false) .u .u .u .u .u .u .u .u .u .u .u .u .u .u .u) (F.all .u) (F.all .u) (F.all .u) (F.all .u) (F.all .u) (F.all .u) (F.all .u) (F.all .u) (F.all .u) (F.all .u) (F.all .u) (F.all .u) (F.all .u))))
/-- (*tableau/forest.Forest).Commit -/
noncomputable def me109a : AV := (L [(.p 40 0), (n64 1010)])
noncomputable def me109u : BL := [(39, mg136), (40, mg10), (4057, mg160), (5087, mg90), (5089, mg85), (5401, mg119)]
noncomputable def me109c : BL := [(2320, mg158)]
noncomputable def me109l : BL := [(2320, mg162), (5784, mg30), (5830, mg85), (5836, mg119)]
noncomputable def me109v : AV := (.tup (L [(.s 5784 0 1 1 1 false), .ni]))
noncomputable def me109 : Ent := .mk me109a 5732 me109u me109c me109v 5838 me109l
/-- (*tableau/forest.Forest).Held -/
noncomputable def me110a : AV := (L [(.p 40 0)])
noncomputable def me110u : BL := [(39, mg136), (40, mg10), (2320, mg162), (4057, mg160)]
noncomputable def me110c : BL := []
noncomputable def me110l : BL := [(5875, mg112)]
noncomputable def me110v : AV := (.s 5875 0 1 2 2 false)
noncomputable def me110 : Ent := .mk me110a 5871 me110u me110c me110v 5876 me110l
noncomputable def mg163 : GB := (.rw (Cs.putL (L [(.m 5876), (.m 48)]) 0 (Cs.mk 2)))
/-- (*tableau/uses.Uses).Now -/
noncomputable def me111a : AV := (L [(.p 49 0), (.s 5875 0 1 2 2 false)])
noncomputable def me111u : BL := [(5653, mg103), (5875, mg112)]
noncomputable def me111c : BL := [(49, mg161)]
noncomputable def me111l : BL := [(49, mg163), (5876, mg103)]
noncomputable def me111v : AV := .ns
noncomputable def me111 : Ent := .mk me111a 5876 me111u me111c me111v 5880 me111l
/-- (*tableau/desk.Desk).Handle -/
noncomputable def me112a : AV := (L [(.p 53 0), (n64 1), (.agg (L [(n64 10), (n64 5), (.str [])]))])
noncomputable def me112u : BL := [(1, mg9), (38, (.mp (L [(n64 1), (.p 78 0)]))), (39, mg136), (40, mg10), (41, (.mp (L [(n64 1010), (.p 2510 0)]))), (42, mg19), (53, mg95), (73, mg97), (74, mg11), (78, mg4), (2510, mg65), (4057, mg160), (5087, mg90), (5089, mg85), (5401, mg119), (5653, mg103)]
noncomputable def me112c : BL := [(49, mg161), (2320, mg158)]
noncomputable def me112l : BL := [(49, mg163), (2320, mg162), (5830, mg85), (5836, mg119), (5876, mg103)]
noncomputable def me112v : AV := .ni
noncomputable def me112 : Ent := .mk me112a 5658 me112u me112c me112v 5880 me112l
/-- (*tableau/server.Server).feed -/
noncomputable def me113a : AV := (L [(.p 54 0), (n64 1), (.s 3943 0 1 156 156 false)])
noncomputable def me113u : BL := [(1, mg9), (3, mg42), (19, mg43), (38, (.mp (L [(n64 1), (.p 78 0)]))), (40, mg10), (41, (.mp (L [(n64 1010), (.p 2510 0)]))), (42, mg19), (43, mg51), (45, mg52), (54, mg1), (74, mg11), (78, mg4), (81, mg5), (83, mg6), (2510, mg65), (3655, mg16), (3697, (.mp (L [(n64 1), (.b true)]))), (3943, mg133)]
noncomputable def me113c : BL := [(39, (.mp (L [(n64 1010), (.p 2320 0)]))), (44, mg53), (46, (.mp (L [(n64 1), (n64 1013)]))), (49, mg61), (53, mg64), (66, mg56), (73, mg57), (79, mg67), (2320, mg60)]
noncomputable def me113l : BL := [(39, mg136), (44, mg92), (46, mg93), (49, mg163), (53, mg95), (66, mg96), (73, mg97), (79, mg134), (2320, mg162), (3944, mg133), (4057, mg160), (5612, mg16), (5830, mg85), (5836, mg119), (5876, mg103)]
noncomputable def me113v : AV := (.tup .nil)
noncomputable def me113 : Ent := .mk me113a 3944 me113u me113c me113v 5880 me113l
noncomputable def mg164 : GB := (.rw (.c2 (.mk (.mk (n8 3) (n8 0) (n8 0) (n8 0) (n8 0) (n8 0) (n8 12) (n8 0) (n8 20) (n8 0) (n8 0) (n8 0) (n8 5) (n8 0) (n8 0) (n8 0)) (.mk (n8 1) (n8 0) (n8 20) (n8 0) (n8 21) (n8 0) (n8 0) (n8 0) (n8 20) (n8 0) (n8 0) (n8 0) (n8 10) (n8 0) (n8 0) (n8 0)) (.mk (n8 21) (n8 0) (n8 0) (n8 0) (n8 1) (n8 0) (n8 16) (n8 0) (.q .u8 0) (n8 0) (n8 0) (n8 0) (.q .u8 1) (n8 0) (n8 0) (n8 0)) (.mk (n8 8) (n8 0) (n8 0) (n8 0) (n8 0) (n8 0) (n8 32) (n8 0) (n8 22) (n8 0) (n8 0) (n8 0) (n8 0) (n8 2) (n8 0) (n8 0)) (.mk (n8 1) (n8 0) (n8 0) (n8 0) (n8 1) (n8 0) (n8 0) (n8 0) (n8 4) (n8 0) (n8 0) (n8 0) (n8 0) (n8 0) (n8 0) (n8 0)) (.mk (n8 20) (n8 0) (n8 0) (n8 0) (n8 1) (n8 0) (n8 20) (n8 0) (n8 22) (n8 0) (n8 0) (n8 0) (n8 0) (n8 0) (n8 0) (n8 0)) (.mk (n8 0) (n8 0) (n8 0) (n8 0) (n8 20) (n8 0) (n8 0) (n8 0) (n8 5) (n8 0) (n8 8) (n8 0) (n8 10) (n8 0) (n8 0) (n8 0)) (.mk (n8 5) (n8 0) (n8 8) (n8 0) (n8 21) (n8 0) (n8 0) (n8 0) (n8 4) (n8 0) (n8 8) (n8 0) (n8 21) (n8 0) (n8 0) (n8 0)) (.mk (n8 1) (n8 0) (n8 16) (n8 0) (.q .u8 2) (n8 0) (n8 0) (n8 0) (.q .u8 3) (n8 0) (n8 0) (n8 0) (n8 20) (n8 0) (n8 0) (n8 0)) (.mk (n8 5) (n8 0) (n8 8) (n8 0) .u .u .u .u .u .u .u .u .u .u .u .u) (F.all .u) (F.all .u) (F.all .u) (F.all .u) (F.all .u) (F.all .u))))
noncomputable def mg165 : GB := (.rw (.c2 (.mk (.mk (n64 3) (n64 0) (.str [20, 0, 0, 0]) (n64 5) (n64 1) (.str [21, 0, 0, 0, 20, 0, 0, 0, 10, 0, 0, 0]) (n64 21) (n64 1) (.str [256, 0, 0, 0, 257, 0, 0, 0]) (n64 8) (n64 0) (.str [22, 0, 0, 0, 0, 2, 0, 0, 1, 0, 0, 0, 1, 0, 0, 0, 4, 0, 0, 0, 0, 0, 0, 0]) (n64 20) (n64 1) (.str [22, 0, 0, 0, 0, 0, 0, 0, 0, 0, 0, 0]) (n64 20)) (.mk (n64 5) (.str []) (n64 10) (n64 5) (.str []) (n64 21) (n64 4) (.str []) (n64 21) (n64 1) (.str [258, 0, 0, 0, 259, 0, 0, 0]) (n64 20) (n64 5) (.str []) .u .u) (F.all .u) (F.all .u) (F.all .u) (F.all .u) (F.all .u) (F.all .u) (F.all .u) (F.all .u) (F.all .u) (F.all .u) (F.all .u) (F.all .u) (F.all .u) (F.all .u))))
/-- (*tableau/reader.Reader).Feed -/
noncomputable def me117a : AV := (L [(.p 79 0), (.s 3938 0 1 148 148 false)])
noncomputable def me117u : BL := [(3, mg42), (19, mg43), (3938, mg164)]
noncomputable def me117c : BL := [(79, mg67)]
noncomputable def me117l : BL := [(79, mg73), (3939, mg164), (3959, mg165)]
noncomputable def me117v : AV := (.tup (L [(.s 3959 0 3 10 10 false), .ni]))
noncomputable def me117 : Ent := .mk me117a 3939 me117u me117c me117v 3960 me117l
/-- (*tableau/forest.Forest).Held -/
noncomputable def me118a : AV := (L [(.p 40 0)])
noncomputable def me118u : BL := [(39, mg75), (40, mg10), (2320, mg108), (4050, mg109)]
noncomputable def me118c : BL := []
noncomputable def me118l : BL := [(5289, mg112)]
noncomputable def me118v : AV := (.s 5289 0 1 2 2 false)
noncomputable def me118 : Ent := .mk me118a 5285 me118u me118c me118v 5290 me118l
/-- (*tableau/forest.Forest).Held -/
noncomputable def me119a : AV := (L [(.p 40 0)])
noncomputable def me119u : BL := [(39, mg75), (40, mg10), (2320, mg117), (4050, mg109)]
noncomputable def me119c : BL := []
noncomputable def me119l : BL := [(5432, mg112)]
noncomputable def me119v : AV := (.s 5432 0 1 2 2 false)
noncomputable def me119 : Ent := .mk me119a 5428 me119u me119c me119v 5433 me119l
/-- (*tableau/desk.Desk).Handle -/
noncomputable def me120a : AV := (L [(.p 53 0), (n64 1), (.agg (L [(n64 21), (n64 1), (.str [258, 0, 0, 0, 259, 0, 0, 0])]))])
noncomputable def me120u : BL := [(1, mg9), (38, (.mp (L [(n64 1), (.p 78 0)]))), (39, mg75), (40, mg10), (53, mg95), (66, mg96), (73, mg97), (74, mg11), (78, mg4), (4050, mg109), (5290, mg103)]
noncomputable def me120c : BL := [(49, mg115), (2320, mg108)]
noncomputable def me120l : BL := [(49, mg118), (2320, mg117), (5394, mg119), (5433, mg103)]
noncomputable def me120v : AV := .ni
noncomputable def me120 : Ent := .mk me120a 5295 me120u me120c me120v 5437 me120l
/-- (*tableau/forest.Forest).Held -/
noncomputable def me121a : AV := (L [(.p 40 0)])
noncomputable def me121u : BL := [(39, mg75), (40, mg10), (2320, mg117), (4050, mg109)]
noncomputable def me121c : BL := []
noncomputable def me121l : BL := [(5593, mg112)]
noncomputable def me121v : AV := (.s 5593 0 1 2 2 false)
noncomputable def me121 : Ent := .mk me121a 5589 me121u me121c me121v 5594 me121l
noncomputable def mg166 : GB := (.rw (Cs.putL (L [(.m 5594), (.m 48)]) 0 (Cs.mk 2)))
/-- (*tableau/uses.Uses).Now -/
noncomputable def me122a : AV := (L [(.p 49 0), (.s 5593 0 1 2 2 false)])
noncomputable def me122u : BL := [(5433, mg103), (5593, mg112)]
noncomputable def me122c : BL := [(49, mg118)]
noncomputable def me122l : BL := [(49, mg166), (5594, mg103)]
noncomputable def me122v : AV := .ns
noncomputable def me122 : Ent := .mk me122a 5594 me122u me122c me122v 5598 me122l
/-- (*tableau/desk.Desk).Handle -/
noncomputable def me123a : AV := (L [(.p 53 0), (n64 1), (.agg (L [(n64 20), (n64 5), (.str [])]))])
noncomputable def me123u : BL := [(1, mg9), (38, (.mp (L [(n64 1), (.p 78 0)]))), (39, mg75), (40, mg10), (41, (.mp (L [(n64 1010), (.p 2510 0)]))), (42, mg19), (53, mg95), (73, mg97), (74, mg11), (78, mg4), (2320, mg117), (4050, mg109), (5433, mg103)]
noncomputable def me123c : BL := [(49, mg118)]
noncomputable def me123l : BL := [(49, mg166), (5594, mg103)]
noncomputable def me123v : AV := .ni
noncomputable def me123 : Ent := .mk me123a 5438 me123u me123c me123v 5598 me123l
/-- (*tableau/server.Server).feed -/
noncomputable def me124a : AV := (L [(.p 54 0), (n64 1), (.s 3938 0 1 148 148 false)])
noncomputable def me124u : BL := [(1, mg9), (3, mg42), (19, mg43), (38, (.mp (L [(n64 1), (.p 78 0)]))), (40, mg10), (41, (.mp (L [(n64 1010), (.p 2510 0)]))), (42, mg19), (43, mg51), (45, mg52), (54, mg1), (74, mg11), (78, mg4), (81, mg5), (83, mg6), (2510, mg65), (3655, mg16), (3697, (.mp (L [(n64 1), (.b true)]))), (3938, mg164)]
noncomputable def me124c : BL := [(39, (.mp (L [(n64 1010), (.p 2320 0)]))), (44, mg53), (46, (.mp (L [(n64 1), (n64 1013)]))), (49, mg61), (53, mg64), (66, mg56), (73, mg57), (79, mg67), (2320, mg60)]
noncomputable def me124l : BL := [(39, mg75), (44, mg92), (46, mg93), (49, mg166), (53, mg95), (66, mg96), (73, mg97), (79, mg73), (2320, mg117), (3939, mg164), (4050, mg109), (5080, mg90), (5082, mg85), (5132, mg16), (5394, mg119), (5594, mg103)]
noncomputable def me124v : AV := (.tup .nil)
noncomputable def me124 : Ent := .mk me124a 3939 me124u me124c me124v 5880 me124l
noncomputable def mg167 : GB := (.rw (.c2 (.mk (.mk (n8 3) (n8 0) (n8 0) (n8 0) (n8 0) (n8 0) (n8 12) (n8 0) (n8 20) (n8 0) (n8 0) (n8 0) (n8 5) (n8 0) (n8 0) (n8 0)) (.mk (n8 1) (n8 0) (n8 20) (n8 0) (n8 21) (n8 0) (n8 0) (n8 0) (n8 20) (n8 0) (n8 0) (n8 0) (n8 10) (n8 0) (n8 0) (n8 0)) (.mk (n8 21) (n8 0) (n8 0) (n8 0) (n8 1) (n8 0) (n8 16) (n8 0) (.q .u8 0) (n8 0) (n8 0) (n8 0) (.q .u8 1) (n8 0) (n8 0) (n8 0)) (.mk (n8 8) (n8 0) (n8 0) (n8 0) (n8 0) (n8 0) (n8 32) (n8 0) (n8 22) (n8 0) (n8 0) (n8 0) (n8 0) (n8 2) (n8 0) (n8 0)) (.mk (n8 1) (n8 0) (n8 0) (n8 0) (n8 1) (n8 0) (n8 0) (n8 0) (n8 4) (n8 0) (n8 0) (n8 0) (n8 0) (n8 0) (n8 0) (n8 0)) (.mk (n8 20) (n8 0) (n8 0) (n8 0) (n8 1) (n8 0) (n8 20) (n8 0) (n8 22) (n8 0) (n8 0) (n8 0) (n8 0) (n8 0) (n8 0) (n8 0)) (.mk (n8 0) (n8 0) (n8 0) (n8 0) (n8 20) (n8 0) (n8 0) (n8 0) (n8 5) (n8 0) (n8 8) (n8 0) (n8 10) (n8 0) (n8 0) (n8 0)) (.mk (n8 5) (n8 0) (n8 8) (n8 0) (n8 21) (n8 0) (n8 0) (n8 0) (n8 4) (n8 0) (n8 8) (n8 0) (n8 21) (n8 0) (n8 0) (n8 0)) (.mk (n8 1) (n8 0) (n8 16) (n8 0) (.q .u8 2) (n8 0) (n8 0) (n8 0) (.q .u8 3) (n8 0) (n8 0) (n8 0) (n8 20) (n8 0) (n8 0) (n8 0)) (.mk (n8 5) (n8 0) (n8 8) (n8 0) (n8 10) (n8 0) (n8 0) (n8 0) (n8 5) (n8 0) (n8 8) (n8 0) .u .u .u .u) (F.all .u) (F.all .u) (F.all .u) (F.all .u) (F.all .u) (F.all .u))))
noncomputable def mg168 : GB := (.rw (.c2 (.mk (.mk (n64 3) (n64 0) (.str [20, 0, 0, 0]) (n64 5) (n64 1) (.str [21, 0, 0, 0, 20, 0, 0, 0, 10, 0, 0, 0]) (n64 21) (n64 1) (.str [256, 0, 0, 0, 257, 0, 0, 0]) (n64 8) (n64 0) (.str [22, 0, 0, 0, 0, 2, 0, 0, 1, 0, 0, 0, 1, 0, 0, 0, 4, 0, 0, 0, 0, 0, 0, 0]) (n64 20) (n64 1) (.str [22, 0, 0, 0, 0, 0, 0, 0, 0, 0, 0, 0]) (n64 20)) (.mk (n64 5) (.str []) (n64 10) (n64 5) (.str []) (n64 21) (n64 4) (.str []) (n64 21) (n64 1) (.str [258, 0, 0, 0, 259, 0, 0, 0]) (n64 20) (n64 5) (.str []) (n64 10) (n64 5)) (.mk (.str []) .u .u .u .u .u .u .u .u .u .u .u .u .u .u .u) (F.all .u) (F.all .u) (F.all .u) (F.all .u) (F.all .u) (F.all .u) (F.all .u) (F.all .u) (F.all .u) (F.all .u) (F.all .u) (F.all .u) (F.all .u))))
/-- (*tableau/reader.Reader).Feed -/
noncomputable def me128a : AV := (L [(.p 79 0), (.s 3943 0 1 156 156 false)])
noncomputable def me128u : BL := [(3, mg42), (19, mg43), (3943, mg167)]
noncomputable def me128c : BL := [(79, mg67)]
noncomputable def me128l : BL := [(79, mg134), (3944, mg167), (3966, mg168)]
noncomputable def me128v : AV := (.tup (L [(.s 3966 0 3 11 11 false), .ni]))
noncomputable def me128 : Ent := .mk me128a 3944 me128u me128c me128v 3967 me128l
/-- (*tableau/forest.Forest).Held -/
noncomputable def me129a : AV := (L [(.p 40 0)])
noncomputable def me129u : BL := [(39, mg136), (40, mg10), (2320, mg152), (4057, mg153)]
noncomputable def me129c : BL := []
noncomputable def me129l : BL := [(5296, mg112)]
noncomputable def me129v : AV := (.s 5296 0 1 2 2 false)
noncomputable def me129 : Ent := .mk me129a 5292 me129u me129c me129v 5297 me129l
/-- (*tableau/forest.Forest).Held -/
noncomputable def me130a : AV := (L [(.p 40 0)])
noncomputable def me130u : BL := [(39, mg136), (40, mg10), (2320, mg158), (4057, mg153)]
noncomputable def me130c : BL := []
noncomputable def me130l : BL := [(5439, mg112)]
noncomputable def me130v : AV := (.s 5439 0 1 2 2 false)
noncomputable def me130 : Ent := .mk me130a 5435 me130u me130c me130v 5440 me130l
/-- (*tableau/desk.Desk).Handle -/
noncomputable def me131a : AV := (L [(.p 53 0), (n64 1), (.agg (L [(n64 21), (n64 1), (.str [258, 0, 0, 0, 259, 0, 0, 0])]))])
noncomputable def me131u : BL := [(1, mg9), (38, (.mp (L [(n64 1), (.p 78 0)]))), (39, mg136), (40, mg10), (53, mg95), (66, mg96), (73, mg97), (74, mg11), (78, mg4), (4057, mg153), (5297, mg103)]
noncomputable def me131c : BL := [(49, mg157), (2320, mg152)]
noncomputable def me131l : BL := [(49, mg159), (2320, mg158), (5401, mg119), (5440, mg103)]
noncomputable def me131v : AV := .ni
noncomputable def me131 : Ent := .mk me131a 5302 me131u me131c me131v 5444 me131l
/-- (*tableau/forest.Forest).Held -/
noncomputable def me132a : AV := (L [(.p 40 0)])
noncomputable def me132u : BL := [(39, mg136), (40, mg10), (2320, mg158), (4057, mg153)]
noncomputable def me132c : BL := []
noncomputable def me132l : BL := [(5600, mg112)]
noncomputable def me132v : AV := (.s 5600 0 1 2 2 false)
noncomputable def me132 : Ent := .mk me132a 5596 me132u me132c me132v 5601 me132l
noncomputable def mg169 : GB := (.rw (Cs.putL (L [(.m 5601), (.m 48)]) 0 (Cs.mk 2)))
/-- (*tableau/uses.Uses).Now -/
noncomputable def me133a : AV := (L [(.p 49 0), (.s 5600 0 1 2 2 false)])
noncomputable def me133u : BL := [(5440, mg103), (5600, mg112)]
noncomputable def me133c : BL := [(49, mg159)]
noncomputable def me133l : BL := [(49, mg169), (5601, mg103)]
noncomputable def me133v : AV := .ns
noncomputable def me133 : Ent := .mk me133a 5601 me133u me133c me133v 5605 me133l
/-- (*tableau/desk.Desk).Handle -/
noncomputable def me134a : AV := (L [(.p 53 0), (n64 1), (.agg (L [(n64 20), (n64 5), (.str [])]))])
noncomputable def me134u : BL := [(1, mg9), (38, (.mp (L [(n64 1), (.p 78 0)]))), (39, mg136), (40, mg10), (41, (.mp (L [(n64 1010), (.p 2510 0)]))), (42, mg19), (53, mg95), (73, mg97), (74, mg11), (78, mg4), (2320, mg158), (4057, mg153), (5440, mg103)]
noncomputable def me134c : BL := [(49, mg159)]
noncomputable def me134l : BL := [(49, mg169), (5601, mg103)]
noncomputable def me134v : AV := .ni
noncomputable def me134 : Ent := .mk me134a 5445 me134u me134c me134v 5605 me134l
/-- (*tableau/desk.request).coming -/
noncomputable def me135a : AV := (L [(.p 5646 0), (n64 1010)])
noncomputable def me135u : BL := [(39, mg136), (40, mg10), (53, mg95), (2320, mg158), (5087, mg90), (5089, mg85), (5401, mg119), (5646, mg28)]
noncomputable def me135c : BL := []
noncomputable def me135l : BL := []
noncomputable def me135v : AV := (.tup (L [(.b false), (n64 1)]))
noncomputable def me135 : Ent := .lo me135a 5647 me135u me135c me135v me135l
noncomputable def mg170 : GB := (.rw (Cs.putL (L [(.f 341 .nil (L [(.p 5680 0), (.p 5729 0), (.p 5730 0)]))]) 0 (Cs.mk 1)))
noncomputable def mg171 : GB := (.rw (.c2 (.mk (.mk (n64 1010) (n64 0) (.b false) (.b false) (n64 0) .ns .ns (.b false) (.b false) .ns (.b false) .ns .ns (.b false) (n64 0) .ns) (.mk .ns (.b false) (.b false) .ns (.b false) .ns (.s 5728 0 3 1 1 false) (.b false) (n64 1) .ns .ns (.b false) (.b true) .ns (.b false) (.s 5089 0 1 2 2 false)) (.mk (.s 5087 0 3 1 1 false) .u .u .u .u .u .u .u .u .u .u .u .u .u .u .u) (F.all .u) (F.all .u) (F.all .u) (F.all .u) (F.all .u) (F.all .u) (F.all .u) (F.all .u) (F.all .u) (F.all .u) (F.all .u) (F.all .u) (F.all .u))))
noncomputable def mg172 : GB := (.rw (.c2 (.mk (.mk (n64 1010) (n64 0) (.b false) (.b false) (n64 0) .ns .ns (.b false) (.b false) .ns (.b false) .ns .ns (.b false) (n64 0) .ns) (.mk .ns (.b false) (.b false) .ns (.b false) .ns .ns (.b false) (n64 1) .ns .ns (.b false) (.b true) .ns (.b false) (.s 5778 0 1 2 2 false)) (.mk (.s 5784 0 3 1 1 false) .u .u .u .u .u .u .u .u .u .u .u .u .u .u .u) (F.all .u) (F.all .u) (F.all .u) (F.all .u) (F.all .u) (F.all .u) (F.all .u) (F.all .u) (F.all .u) (F.all .u) (F.all .u) (F.all .u) (F.all .u))))
noncomputable def mg173 : GB := (.rw (.c2 (.mk (.mk (n64 1020) (n64 1010) (.b true) (.b false) (n64 0) .ns .ns (.b false) (.b false) .ns (.b false) .ns .ns (.b false) (n64 0) .ns) (.mk .ns (.b false) (.b false) .ns (.b false) .ns .ns (.b false) (n64 2) .ns .ns (.b false) (.b true) .ns (.b false) (.s 5832 0 1 1 1 false)) (.mk .ns .u .u .u .u .u .u .u .u .u .u .u .u .u .u .u) (F.all .u) (F.all .u) (F.all .u) (F.all .u) (F.all .u) (F.all .u) (F.all .u) (F.all .u) (F.all .u) (F.all .u) (F.all .u) (F.all .u) (F.all .u))))
/-- (*tableau/forest.Forest).Commit$1 -/
noncomputable def me136a : AV := (L [(.p 2320 0), (.p 5680 0), (.p 5729 0), (.p 5730 0)])
noncomputable def me136u : BL := [(39, mg136), (40, mg10), (5087, mg90), (5089, mg85), (5139, mg16), (5680, mg104), (5728, mg119), (5730, mg170)]
noncomputable def me136c : BL := [(2320, mg171), (4057, mg153)]
noncomputable def me136l : BL := [(2320, mg172), (4057, mg173), (5778, mg85), (5784, mg119), (5832, mg16)]
noncomputable def me136v : AV := (.tup .nil)
noncomputable def me136 : Ent := .mk me136a 5733 me136u me136c me136v 5835 me136l
/-- (*tableau/forest.Forest).Held -/
noncomputable def me137a : AV := (L [(.p 40 0)])
noncomputable def me137u : BL := [(39, mg136), (40, mg10), (2320, mg172), (4057, mg173)]
noncomputable def me137c : BL := []
noncomputable def me137l : BL := [(5872, mg112)]
noncomputable def me137v : AV := (.s 5872 0 1 2 2 false)
noncomputable def me137 : Ent := .mk me137a 5868 me137u me137c me137v 5873 me137l
noncomputable def mg174 : GB := (.rw (Cs.putL (L [(.m 5873), (.m 48)]) 0 (Cs.mk 2)))
/-- (*tableau/uses.Uses).Now -/
noncomputable def me138a : AV := (L [(.p 49 0), (.s 5872 0 1 2 2 false)])
noncomputable def me138u : BL := [(5601, mg103), (5872, mg112)]
noncomputable def me138c : BL := [(49, mg169)]
noncomputable def me138l : BL := [(49, mg174), (5873, mg103)]
noncomputable def me138v : AV := .ns
noncomputable def me138 : Ent := .mk me138a 5873 me138u me138c me138v 5877 me138l
/-- (*tableau/desk.Desk).Handle -/
noncomputable def me139a : AV := (L [(.p 53 0), (n64 1), (.agg (L [(n64 10), (n64 5), (.str [])]))])
noncomputable def me139u : BL := [(1, mg9), (38, (.mp (L [(n64 1), (.p 78 0)]))), (39, mg136), (40, mg10), (41, (.mp (L [(n64 1010), (.p 2510 0)]))), (42, mg19), (53, mg95), (73, mg97), (74, mg11), (78, mg4), (2510, mg65), (5087, mg90), (5089, mg85), (5139, mg16), (5401, mg119), (5601, mg103)]
noncomputable def me139c : BL := [(49, mg169), (2320, mg158), (4057, mg153)]
noncomputable def me139l : BL := [(49, mg174), (2320, mg172), (4057, mg173), (5778, mg85), (5784, mg119), (5832, mg16), (5873, mg103)]
noncomputable def me139v : AV := .ni
noncomputable def me139 : Ent := .mk me139a 5606 me139u me139c me139v 5877 me139l
/-- (*tableau/server.Server).feed -/
noncomputable def me140a : AV := (L [(.p 54 0), (n64 1), (.s 3943 0 1 156 156 false)])
noncomputable def me140u : BL := [(1, mg9), (3, mg42), (19, mg43), (38, (.mp (L [(n64 1), (.p 78 0)]))), (40, mg10), (41, (.mp (L [(n64 1010), (.p 2510 0)]))), (42, mg19), (43, mg51), (45, mg52), (54, mg1), (74, mg11), (78, mg4), (81, mg5), (83, mg6), (2510, mg65), (3655, mg16), (3697, (.mp (L [(n64 1), (.b true)]))), (3943, mg167)]
noncomputable def me140c : BL := [(39, (.mp (L [(n64 1010), (.p 2320 0)]))), (44, mg53), (46, (.mp (L [(n64 1), (n64 1013)]))), (49, mg61), (53, mg64), (66, mg56), (73, mg57), (79, mg67), (2320, mg60)]
noncomputable def me140l : BL := [(39, mg136), (44, mg92), (46, mg93), (49, mg174), (53, mg95), (66, mg96), (73, mg97), (79, mg134), (2320, mg172), (3944, mg167), (4057, mg173), (5778, mg85), (5784, mg119), (5832, mg16), (5873, mg103)]
noncomputable def me140v : AV := (.tup .nil)
noncomputable def me140 : Ent := .mk me140a 3944 me140u me140c me140v 5880 me140l
noncomputable def mg175 : GB := (.rw (Cs.putL (L [(n32 4278190335)]) 0 (Cs.mk 1)))
noncomputable def mg176 : GB := (.rw (Cs.putL (L [(.s 6222 0 1 1 1 false)]) 0 (Cs.mk 1)))
noncomputable def mxC : Cs := (.c3 (.mk (.mk (.mk (n32 4278190081) (n32 4278190081) (n32 4278190081) (n32 4278190081) (n32 4278190081) (n32 4278190081) (n32 4278190081) (n32 4278190081) (n32 4279246896) (n32 4279246896) (n32 4279246896) (n32 4279246896) (n32 4279246896) (n32 4279246896) (n32 4279246896) (n32 4279246896)) (.mk (n32 4279246896) (n32 4279246896) (n32 4279246896) (n32 4279246896) (n32 4279246896) (n32 4279246896) (n32 4279246896) (n32 4279246896) (n32 4278190081) (n32 4278190081) (n32 4278190081) (n32 4278190081) (n32 4278190081) (n32 4278190081) (n32 4278190081) (n32 4278190081)) (F.all (n32 4279246896)) (.mk (n32 4278190081) (n32 4278190081) (n32 4278190081) (n32 4278190081) (n32 4278190081) (n32 4278190081) (n32 4278190081) (n32 4278190081) (n32 4279246896) (n32 4279246896) (n32 4279246896) (n32 4279246896) (n32 4279246896) (n32 4279246896) (n32 4279246896) (n32 4279246896)) (.mk (n32 4279246896) (n32 4279246896) (n32 4279246896) (n32 4279246896) (n32 4279246896) (n32 4279246896) (n32 4279246896) (n32 4279246896) (n32 4278190081) (n32 4278190081) (n32 4278190081) (n32 4278190081) (n32 4278190081) (n32 4278190081) (n32 4278190081) (n32 4278190081)) (F.all (n32 4279246896)) (.mk (n32 4278190081) (n32 4278190081) (n32 4278190081) (n32 4278190081) (n32 4278190081) (n32 4278190081) (n32 4278190081) (n32 4278190081) (n32 4279246896) (n32 4279246896) (n32 4279246896) (n32 4279246896) (n32 4279246896) (n32 4279246896) (n32 4279246896) (n32 4279246896)) (.mk (n32 4279246896) (n32 4279246896) (n32 4279246896) (n32 4279246896) (n32 4279246896) (n32 4279246896) (n32 4279246896) (n32 4279246896) (n32 4278190081) (n32 4278190081) (n32 4278190081) (n32 4278190081) (n32 4278190081) (n32 4278190081) (n32 4278190081) (n32 4278190081)) (F.all (n32 4279246896)) (.mk (n32 4278190081) (n32 4278190081) (n32 4278190081) (n32 4278190081) (n32 4278190081) (n32 4278190081) (n32 4278190081) (n32 4278190081) (n32 4279246896) (n32 4279246896) (n32 4279246896) (n32 4279246896) (n32 4279246896) (n32 4279246896) (n32 4279246896) (n32 4279246896)) (.mk (n32 4279246896) (n32 4279246896) (n32 4279246896) (n32 4279246896) (n32 4279246896) (n32 4279246896) (n32 4279246896) (n32 4279246896) (n32 4278190081) (n32 4278190081) (n32 4278190081) (n32 4278190081) (n32 4278190081) (n32 4278190081) (n32 4278190081) (n32 4278190081)) (F.all (n32 4279246896)) (F.all (n32 4279246896)) (F.all (n32 4279246896)) (F.all (n32 4279246896)) (F.all (n32 4279246896))) (.mk (F.all (n32 4279246896)) (F.all (n32 4279246896)) (F.all (n32 4279246896)) (F.all (n32 4279246896)) (F.all (n32 4279246896)) (F.all (n32 4279246896)) (F.all (n32 4279246896)) (F.all (n32 4279246896)) (F.all .u) (F.all .u) (F.all .u) (F.all .u) (F.all .u) (F.all .u) (F.all .u) (F.all .u)) (F.all (F.all .u)) (F.all (F.all .u)) (F.all (F.all .u)) (F.all (F.all .u)) (F.all (F.all .u)) (F.all (F.all .u)) (F.all (F.all .u)) (F.all (F.all .u)) (F.all (F.all .u)) (F.all (F.all .u)) (F.all (F.all .u)) (F.all (F.all .u)) (F.all (F.all .u)) (F.all (F.all .u))))
noncomputable def mxE (x y : Nat) : Ent := .lo (L [(.p 35 0), (.s 6225 0 4 1 1 true), (.f 228 .nil (L [(.p 6242 0), (.p 6243 0), (.p 6241 0), (.p 6245 0), (.p 6244 0)]))]) 6246 [(35, mg126), (6222, mg175), (6225, mg127), (6241, .rw (Cs.putL (L [n64 x]) 0 (Cs.mk 1))), (6242, .rw (Cs.putL (L [n64 y]) 0 (Cs.mk 1))), (6243, mg37), (6244, mg176), (6245, .rw (Cs.putL (L [n64 x, n64 y, n64 1, n64 1]) 0 (Cs.mk 4)))] [(34, .rw mxC)] (.tup .nil) [(34, .rw (Cs.put mxC (Nat.add (Nat.mul 24 y) x) (n32 4278190335)))]
end Go.Proofs.YtenpbpgoglepfaaGreatDoor
namespace Go.Proofs.YtenpbpgoglepfaaGreatDoor
open Go.RowKit
set_option linter.unusedVariables false
set_option maxRecDepth 100000
noncomputable def mr_ff (a b : Nat) : List (Nat × Rw) := [(8, .one (.pr (prPq [(0, 8, n64 a), (1, 8, n64 b), (2, 8, .q .i64 2), (3, 8, .q .i64 3)]))), (7, .es [we2]), (21, .es [me7]), (17, .es [me27]), (121, .one (esF 121 [instE [(0, a), (1, b)] me28, instE [(0, a), (1, b)] me29, me32, me33])), (40, .one (esF 40 [instE [(0, a), (1, b)] me30, instE [(0, a), (1, b)] me31, me34, me35])), (47, .one (esF 47 [instE [(0, a), (1, b)] me70])), (153, .es [me72]), (131, .es [me73, me74, mxE a b]), (16, .clo (.b true)), (196, .one (.pr prHas))]
noncomputable def mc_ff (a b : Nat) : Bool := okB (evF (tabW (mr_ff a b)) 60 5 (L [.nil, (.cons .nil .nil), (.cons .nil (.cons .nil .nil)), (.cons .nil (.cons .nil (.cons .nil .nil))), .b false, .b false]) (stE 34 st0L [])) (.b true)
noncomputable def mr_ft (a b : Nat) : List (Nat × Rw) := [(8, .one (.pr (prPq [(0, 8, .q .i64 0), (1, 8, .q .i64 1), (2, 8, n64 a), (3, 8, n64 b)]))), (7, .es [we2]), (21, .es [me7]), (17, .es [me27]), (121, .one (esF 121 [me28, me29, instE [(2, a), (3, b)] me32, instE [(2, a), (3, b)] me33])), (40, .one (esF 40 [me30, me31, instE [(2, a), (3, b)] me34, instE [(2, a), (3, b)] me35])), (153, .es [me72]), (131, .es [me73, me74, mxE a b]), (47, .one (esF 47 [instE [(2, a), (3, b)] me113])), (16, .clo (.b true)), (196, .one (.pr prHas))]
noncomputable def mc_ft (a b : Nat) : Bool := okB (evF (tabW (mr_ft a b)) 60 5 (L [.nil, (.cons .nil .nil), (.cons .nil (.cons .nil .nil)), (.cons .nil (.cons .nil (.cons .nil .nil))), .b false, .b true]) (stE 34 st0L [])) (.b true)
noncomputable def mr_tf (a b : Nat) : List (Nat × Rw) := [(8, .one (.pr (prPq [(0, 8, n64 a), (1, 8, n64 b), (2, 8, .q .i64 2), (3, 8, .q .i64 3)]))), (7, .es [we2]), (21, .es [me7]), (17, .es [me27]), (121, .one (esF 121 [instE [(0, a), (1, b)] me28, instE [(0, a), (1, b)] me29, me32, me33])), (40, .one (esF 40 [instE [(0, a), (1, b)] me30, instE [(0, a), (1, b)] me31, me34, me35])), (153, .es [me72]), (131, .es [me73, me74, mxE a b]), (47, .one (esF 47 [instE [(0, a), (1, b)] me124])), (16, .clo (.b true)), (196, .one (.pr prHas))]
noncomputable def mc_tf (a b : Nat) : Bool := okB (evF (tabW (mr_tf a b)) 60 5 (L [.nil, (.cons .nil .nil), (.cons .nil (.cons .nil .nil)), (.cons .nil (.cons .nil (.cons .nil .nil))), .b true, .b false]) (stE 34 st0L [])) (.b true)
noncomputable def mr_tt (a b : Nat) : List (Nat × Rw) := [(8, .one (.pr (prPq [(0, 8, .q .i64 0), (1, 8, .q .i64 1), (2, 8, n64 a), (3, 8, n64 b)]))), (7, .es [we2]), (21, .es [me7]), (17, .es [me27]), (121, .one (esF 121 [me28, me29, instE [(2, a), (3, b)] me32, instE [(2, a), (3, b)] me33])), (40, .one (esF 40 [me30, me31, instE [(2, a), (3, b)] me34, instE [(2, a), (3, b)] me35])), (153, .es [me72]), (131, .es [me73, me74, mxE a b]), (47, .one (esF 47 [instE [(2, a), (3, b)] me140])), (16, .clo (.b true)), (196, .one (.pr prHas))]
noncomputable def mc_tt (a b : Nat) : Bool := okB (evF (tabW (mr_tt a b)) 60 5 (L [.nil, (.cons .nil .nil), (.cons .nil (.cons .nil .nil)), (.cons .nil (.cons .nil (.cons .nil .nil))), .b true, .b true]) (stE 34 st0L [])) (.b true)
end Go.Proofs.YtenpbpgoglepfaaGreatDoor
