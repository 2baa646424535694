/- The program's types and functions as tables, for the walk: closed facts, each out of the loaded program. -/
import Derived.Test.YtmcaigmpcbkfpaaGreatDraw
set_option linter.unusedVariables false
set_option linter.unusedSimpArgs false
set_option maxRecDepth 100000
namespace Go.Proofs.YtmcaigmpcbkfpaaGreat
open Go.RowKit
def look {α : Type} : List (Nat × α) → Nat → Option α
  | [], _ => none
  | (a, b) :: r, n => bif Nat.beq a n then some b else look r n
theorem look_mem {α : Type} : ∀ {l : List (Nat × α)} {n : Nat} {x : α}, look l n = some x → (n, x) ∈ l
  | [], _, _, h => by cases h
  | (a, b) :: r, n, x, h => by
    unfold look at h
    cases e : Nat.beq a n with
    | true => rw [e] at h; injection h with h; subst h; rw [Nat.eq_of_beq_eq_true e]; exact List.mem_cons_self
    | false => rw [e] at h; exact List.mem_cons_of_mem _ (look_mem h)
def aggL : List (Nat × Bool) := [(0, false), (1, false), (2, false), (3, false), (4, false), (5, false), (6, false), (7, true), (8, true), (9, false), (10, false), (11, false), (12, false), (13, true), (14, true), (15, false), (16, false), (17, false), (18, true), (19, true), (20, false), (21, false), (22, false), (23, false), (24, false), (25, false), (26, false), (27, true), (28, true), (29, true), (30, true), (31, false), (32, false), (33, false), (34, true), (35, true), (36, true), (37, true), (38, false), (39, false), (40, false), (41, false), (42, false), (43, false), (44, false), (45, false), (46, false), (47, false), (48, false), (49, false), (50, false), (51, false), (52, false), (53, false), (54, false), (55, false), (56, false), (57, false), (58, true), (59, true), (60, false), (61, false), (62, false), (63, true), (64, true), (65, true), (66, true), (67, false), (68, true), (69, true), (70, false), (71, false), (72, false), (73, false), (74, false), (75, false), (76, false), (77, false), (78, false), (79, false), (80, false), (81, false), (82, false), (83, false), (84, false), (85, false), (86, false), (87, false), (88, false), (89, false), (90, false), (91, false), (92, false), (93, false), (94, true), (95, true), (96, true), (97, true), (98, false), (99, false), (100, false), (101, false), (102, false), (103, false), (104, true), (105, false), (106, false), (107, false), (108, false), (109, false), (110, true), (111, false), (112, false), (113, false), (114, false), (115, false), (116, false), (117, false), (118, false), (119, false), (120, false), (121, false), (122, false), (123, false), (124, true), (125, true), (126, false), (127, true), (128, true), (129, true), (130, true), (131, false), (132, false), (133, false), (134, false), (135, false), (136, false), (137, false), (138, false), (139, true), (140, true), (141, true), (142, true), (143, true), (144, false), (145, false), (146, false), (147, false), (148, false), (149, false), (150, false), (151, false), (152, false), (153, false), (154, false), (155, false), (156, false), (157, false), (158, false), (159, false), (160, true), (161, true), (162, false), (163, false), (164, false), (165, false), (166, false), (167, false), (168, false), (169, false), (170, false), (171, false), (172, false), (173, false), (174, false), (175, false), (176, false), (177, true), (178, true), (179, false), (180, true), (181, false), (182, true), (183, true), (184, false), (185, false), (186, false), (187, false), (188, false), (189, false), (190, false), (191, false), (192, false), (193, false), (194, false), (195, false), (196, false), (197, false), (198, false), (199, true), (200, true), (201, true), (202, true), (203, true), (204, false), (205, false), (206, false), (207, false), (208, false), (209, true), (210, true)]
set_option maxRecDepth 100000 in
theorem aggAll : ∀ x ∈ aggL, ∀ w, (isAgg x.1).run Tryz.prog w = .ok x.2 w :=
  (List.forall_mem_cons.2 ⟨Tryz.isAgg0, (List.forall_mem_cons.2 ⟨Tryz.isAgg1, (List.forall_mem_cons.2 ⟨Tryz.isAgg2, (List.forall_mem_cons.2 ⟨Tryz.isAgg3, (List.forall_mem_cons.2 ⟨Tryz.isAgg4, (List.forall_mem_cons.2 ⟨Tryz.isAgg5, (List.forall_mem_cons.2 ⟨Tryz.isAgg6, (List.forall_mem_cons.2 ⟨Tryz.isAgg7, (List.forall_mem_cons.2 ⟨Tryz.isAgg8, (List.forall_mem_cons.2 ⟨Tryz.isAgg9, (List.forall_mem_cons.2 ⟨Tryz.isAgg10, (List.forall_mem_cons.2 ⟨Tryz.isAgg11, (List.forall_mem_cons.2 ⟨Tryz.isAgg12, (List.forall_mem_cons.2 ⟨Tryz.isAgg13, (List.forall_mem_cons.2 ⟨Tryz.isAgg14, (List.forall_mem_cons.2 ⟨Tryz.isAgg15, (List.forall_mem_cons.2 ⟨Tryz.isAgg16, (List.forall_mem_cons.2 ⟨Tryz.isAgg17, (List.forall_mem_cons.2 ⟨Tryz.isAgg18, (List.forall_mem_cons.2 ⟨Tryz.isAgg19, (List.forall_mem_cons.2 ⟨Tryz.isAgg20, (List.forall_mem_cons.2 ⟨Tryz.isAgg21, (List.forall_mem_cons.2 ⟨Tryz.isAgg22, (List.forall_mem_cons.2 ⟨Tryz.isAgg23, (List.forall_mem_cons.2 ⟨Tryz.isAgg24, (List.forall_mem_cons.2 ⟨Tryz.isAgg25, (List.forall_mem_cons.2 ⟨Tryz.isAgg26, (List.forall_mem_cons.2 ⟨Tryz.isAgg27, (List.forall_mem_cons.2 ⟨Tryz.isAgg28, (List.forall_mem_cons.2 ⟨Tryz.isAgg29, (List.forall_mem_cons.2 ⟨Tryz.isAgg30, (List.forall_mem_cons.2 ⟨Tryz.isAgg31, (List.forall_mem_cons.2 ⟨Tryz.isAgg32, (List.forall_mem_cons.2 ⟨Tryz.isAgg33, (List.forall_mem_cons.2 ⟨Tryz.isAgg34, (List.forall_mem_cons.2 ⟨Tryz.isAgg35, (List.forall_mem_cons.2 ⟨Tryz.isAgg36, (List.forall_mem_cons.2 ⟨Tryz.isAgg37, (List.forall_mem_cons.2 ⟨Tryz.isAgg38, (List.forall_mem_cons.2 ⟨Tryz.isAgg39, (List.forall_mem_cons.2 ⟨Tryz.isAgg40, (List.forall_mem_cons.2 ⟨Tryz.isAgg41, (List.forall_mem_cons.2 ⟨Tryz.isAgg42, (List.forall_mem_cons.2 ⟨Tryz.isAgg43, (List.forall_mem_cons.2 ⟨Tryz.isAgg44, (List.forall_mem_cons.2 ⟨Tryz.isAgg45, (List.forall_mem_cons.2 ⟨Tryz.isAgg46, (List.forall_mem_cons.2 ⟨Tryz.isAgg47, (List.forall_mem_cons.2 ⟨Tryz.isAgg48, (List.forall_mem_cons.2 ⟨Tryz.isAgg49, (List.forall_mem_cons.2 ⟨Tryz.isAgg50, (List.forall_mem_cons.2 ⟨Tryz.isAgg51, (List.forall_mem_cons.2 ⟨Tryz.isAgg52, (List.forall_mem_cons.2 ⟨Tryz.isAgg53, (List.forall_mem_cons.2 ⟨Tryz.isAgg54, (List.forall_mem_cons.2 ⟨Tryz.isAgg55, (List.forall_mem_cons.2 ⟨Tryz.isAgg56, (List.forall_mem_cons.2 ⟨Tryz.isAgg57, (List.forall_mem_cons.2 ⟨Tryz.isAgg58, (List.forall_mem_cons.2 ⟨Tryz.isAgg59, (List.forall_mem_cons.2 ⟨Tryz.isAgg60, (List.forall_mem_cons.2 ⟨Tryz.isAgg61, (List.forall_mem_cons.2 ⟨Tryz.isAgg62, (List.forall_mem_cons.2 ⟨Tryz.isAgg63, (List.forall_mem_cons.2 ⟨Tryz.isAgg64, (List.forall_mem_cons.2 ⟨Tryz.isAgg65, (List.forall_mem_cons.2 ⟨Tryz.isAgg66, (List.forall_mem_cons.2 ⟨Tryz.isAgg67, (List.forall_mem_cons.2 ⟨Tryz.isAgg68, (List.forall_mem_cons.2 ⟨Tryz.isAgg69, (List.forall_mem_cons.2 ⟨Tryz.isAgg70, (List.forall_mem_cons.2 ⟨Tryz.isAgg71, (List.forall_mem_cons.2 ⟨Tryz.isAgg72, (List.forall_mem_cons.2 ⟨Tryz.isAgg73, (List.forall_mem_cons.2 ⟨Tryz.isAgg74, (List.forall_mem_cons.2 ⟨Tryz.isAgg75, (List.forall_mem_cons.2 ⟨Tryz.isAgg76, (List.forall_mem_cons.2 ⟨Tryz.isAgg77, (List.forall_mem_cons.2 ⟨Tryz.isAgg78, (List.forall_mem_cons.2 ⟨Tryz.isAgg79, (List.forall_mem_cons.2 ⟨Tryz.isAgg80, (List.forall_mem_cons.2 ⟨Tryz.isAgg81, (List.forall_mem_cons.2 ⟨Tryz.isAgg82, (List.forall_mem_cons.2 ⟨Tryz.isAgg83, (List.forall_mem_cons.2 ⟨Tryz.isAgg84, (List.forall_mem_cons.2 ⟨Tryz.isAgg85, (List.forall_mem_cons.2 ⟨Tryz.isAgg86, (List.forall_mem_cons.2 ⟨Tryz.isAgg87, (List.forall_mem_cons.2 ⟨Tryz.isAgg88, (List.forall_mem_cons.2 ⟨Tryz.isAgg89, (List.forall_mem_cons.2 ⟨Tryz.isAgg90, (List.forall_mem_cons.2 ⟨Tryz.isAgg91, (List.forall_mem_cons.2 ⟨Tryz.isAgg92, (List.forall_mem_cons.2 ⟨Tryz.isAgg93, (List.forall_mem_cons.2 ⟨Tryz.isAgg94, (List.forall_mem_cons.2 ⟨Tryz.isAgg95, (List.forall_mem_cons.2 ⟨Tryz.isAgg96, (List.forall_mem_cons.2 ⟨Tryz.isAgg97, (List.forall_mem_cons.2 ⟨Tryz.isAgg98, (List.forall_mem_cons.2 ⟨Tryz.isAgg99, (List.forall_mem_cons.2 ⟨Tryz.isAgg100, (List.forall_mem_cons.2 ⟨Tryz.isAgg101, (List.forall_mem_cons.2 ⟨Tryz.isAgg102, (List.forall_mem_cons.2 ⟨Tryz.isAgg103, (List.forall_mem_cons.2 ⟨Tryz.isAgg104, (List.forall_mem_cons.2 ⟨Tryz.isAgg105, (List.forall_mem_cons.2 ⟨Tryz.isAgg106, (List.forall_mem_cons.2 ⟨Tryz.isAgg107, (List.forall_mem_cons.2 ⟨Tryz.isAgg108, (List.forall_mem_cons.2 ⟨Tryz.isAgg109, (List.forall_mem_cons.2 ⟨Tryz.isAgg110, (List.forall_mem_cons.2 ⟨Tryz.isAgg111, (List.forall_mem_cons.2 ⟨Tryz.isAgg112, (List.forall_mem_cons.2 ⟨Tryz.isAgg113, (List.forall_mem_cons.2 ⟨Tryz.isAgg114, (List.forall_mem_cons.2 ⟨Tryz.isAgg115, (List.forall_mem_cons.2 ⟨Tryz.isAgg116, (List.forall_mem_cons.2 ⟨Tryz.isAgg117, (List.forall_mem_cons.2 ⟨Tryz.isAgg118, (List.forall_mem_cons.2 ⟨Tryz.isAgg119, (List.forall_mem_cons.2 ⟨Tryz.isAgg120, (List.forall_mem_cons.2 ⟨Tryz.isAgg121, (List.forall_mem_cons.2 ⟨Tryz.isAgg122, (List.forall_mem_cons.2 ⟨Tryz.isAgg123, (List.forall_mem_cons.2 ⟨Tryz.isAgg124, (List.forall_mem_cons.2 ⟨Tryz.isAgg125, (List.forall_mem_cons.2 ⟨Tryz.isAgg126, (List.forall_mem_cons.2 ⟨Tryz.isAgg127, (List.forall_mem_cons.2 ⟨Tryz.isAgg128, (List.forall_mem_cons.2 ⟨Tryz.isAgg129, (List.forall_mem_cons.2 ⟨Tryz.isAgg130, (List.forall_mem_cons.2 ⟨Tryz.isAgg131, (List.forall_mem_cons.2 ⟨Tryz.isAgg132, (List.forall_mem_cons.2 ⟨Tryz.isAgg133, (List.forall_mem_cons.2 ⟨Tryz.isAgg134, (List.forall_mem_cons.2 ⟨Tryz.isAgg135, (List.forall_mem_cons.2 ⟨Tryz.isAgg136, (List.forall_mem_cons.2 ⟨Tryz.isAgg137, (List.forall_mem_cons.2 ⟨Tryz.isAgg138, (List.forall_mem_cons.2 ⟨Tryz.isAgg139, (List.forall_mem_cons.2 ⟨Tryz.isAgg140, (List.forall_mem_cons.2 ⟨Tryz.isAgg141, (List.forall_mem_cons.2 ⟨Tryz.isAgg142, (List.forall_mem_cons.2 ⟨Tryz.isAgg143, (List.forall_mem_cons.2 ⟨Tryz.isAgg144, (List.forall_mem_cons.2 ⟨Tryz.isAgg145, (List.forall_mem_cons.2 ⟨Tryz.isAgg146, (List.forall_mem_cons.2 ⟨Tryz.isAgg147, (List.forall_mem_cons.2 ⟨Tryz.isAgg148, (List.forall_mem_cons.2 ⟨Tryz.isAgg149, (List.forall_mem_cons.2 ⟨Tryz.isAgg150, (List.forall_mem_cons.2 ⟨Tryz.isAgg151, (List.forall_mem_cons.2 ⟨Tryz.isAgg152, (List.forall_mem_cons.2 ⟨Tryz.isAgg153, (List.forall_mem_cons.2 ⟨Tryz.isAgg154, (List.forall_mem_cons.2 ⟨Tryz.isAgg155, (List.forall_mem_cons.2 ⟨Tryz.isAgg156, (List.forall_mem_cons.2 ⟨Tryz.isAgg157, (List.forall_mem_cons.2 ⟨Tryz.isAgg158, (List.forall_mem_cons.2 ⟨Tryz.isAgg159, (List.forall_mem_cons.2 ⟨Tryz.isAgg160, (List.forall_mem_cons.2 ⟨Tryz.isAgg161, (List.forall_mem_cons.2 ⟨Tryz.isAgg162, (List.forall_mem_cons.2 ⟨Tryz.isAgg163, (List.forall_mem_cons.2 ⟨Tryz.isAgg164, (List.forall_mem_cons.2 ⟨Tryz.isAgg165, (List.forall_mem_cons.2 ⟨Tryz.isAgg166, (List.forall_mem_cons.2 ⟨Tryz.isAgg167, (List.forall_mem_cons.2 ⟨Tryz.isAgg168, (List.forall_mem_cons.2 ⟨Tryz.isAgg169, (List.forall_mem_cons.2 ⟨Tryz.isAgg170, (List.forall_mem_cons.2 ⟨Tryz.isAgg171, (List.forall_mem_cons.2 ⟨Tryz.isAgg172, (List.forall_mem_cons.2 ⟨Tryz.isAgg173, (List.forall_mem_cons.2 ⟨Tryz.isAgg174, (List.forall_mem_cons.2 ⟨Tryz.isAgg175, (List.forall_mem_cons.2 ⟨Tryz.isAgg176, (List.forall_mem_cons.2 ⟨Tryz.isAgg177, (List.forall_mem_cons.2 ⟨Tryz.isAgg178, (List.forall_mem_cons.2 ⟨Tryz.isAgg179, (List.forall_mem_cons.2 ⟨Tryz.isAgg180, (List.forall_mem_cons.2 ⟨Tryz.isAgg181, (List.forall_mem_cons.2 ⟨Tryz.isAgg182, (List.forall_mem_cons.2 ⟨Tryz.isAgg183, (List.forall_mem_cons.2 ⟨Tryz.isAgg184, (List.forall_mem_cons.2 ⟨Tryz.isAgg185, (List.forall_mem_cons.2 ⟨Tryz.isAgg186, (List.forall_mem_cons.2 ⟨Tryz.isAgg187, (List.forall_mem_cons.2 ⟨Tryz.isAgg188, (List.forall_mem_cons.2 ⟨Tryz.isAgg189, (List.forall_mem_cons.2 ⟨Tryz.isAgg190, (List.forall_mem_cons.2 ⟨Tryz.isAgg191, (List.forall_mem_cons.2 ⟨Tryz.isAgg192, (List.forall_mem_cons.2 ⟨Tryz.isAgg193, (List.forall_mem_cons.2 ⟨Tryz.isAgg194, (List.forall_mem_cons.2 ⟨Tryz.isAgg195, (List.forall_mem_cons.2 ⟨Tryz.isAgg196, (List.forall_mem_cons.2 ⟨Tryz.isAgg197, (List.forall_mem_cons.2 ⟨Tryz.isAgg198, (List.forall_mem_cons.2 ⟨Tryz.isAgg199, (List.forall_mem_cons.2 ⟨Tryz.isAgg200, (List.forall_mem_cons.2 ⟨Tryz.isAgg201, (List.forall_mem_cons.2 ⟨Tryz.isAgg202, (List.forall_mem_cons.2 ⟨Tryz.isAgg203, (List.forall_mem_cons.2 ⟨Tryz.isAgg204, (List.forall_mem_cons.2 ⟨Tryz.isAgg205, (List.forall_mem_cons.2 ⟨Tryz.isAgg206, (List.forall_mem_cons.2 ⟨Tryz.isAgg207, (List.forall_mem_cons.2 ⟨Tryz.isAgg208, (List.forall_mem_cons.2 ⟨Tryz.isAgg209, (List.forall_mem_cons.2 ⟨Tryz.isAgg210, (List.forall_mem_nil _)⟩)⟩)⟩)⟩)⟩)⟩)⟩)⟩)⟩)⟩)⟩)⟩)⟩)⟩)⟩)⟩)⟩)⟩)⟩)⟩)⟩)⟩)⟩)⟩)⟩)⟩)⟩)⟩)⟩)⟩)⟩)⟩)⟩)⟩)⟩)⟩)⟩)⟩)⟩)⟩)⟩)⟩)⟩)⟩)⟩)⟩)⟩)⟩)⟩)⟩)⟩)⟩)⟩)⟩)⟩)⟩)⟩)⟩)⟩)⟩)⟩)⟩)⟩)⟩)⟩)⟩)⟩)⟩)⟩)⟩)⟩)⟩)⟩)⟩)⟩)⟩)⟩)⟩)⟩)⟩)⟩)⟩)⟩)⟩)⟩)⟩)⟩)⟩)⟩)⟩)⟩)⟩)⟩)⟩)⟩)⟩)⟩)⟩)⟩)⟩)⟩)⟩)⟩)⟩)⟩)⟩)⟩)⟩)⟩)⟩)⟩)⟩)⟩)⟩)⟩)⟩)⟩)⟩)⟩)⟩)⟩)⟩)⟩)⟩)⟩)⟩)⟩)⟩)⟩)⟩)⟩)⟩)⟩)⟩)⟩)⟩)⟩)⟩)⟩)⟩)⟩)⟩)⟩)⟩)⟩)⟩)⟩)⟩)⟩)⟩)⟩)⟩)⟩)⟩)⟩)⟩)⟩)⟩)⟩)⟩)⟩)⟩)⟩)⟩)⟩)⟩)⟩)⟩)⟩)⟩)⟩)⟩)⟩)⟩)⟩)⟩)⟩)⟩)⟩)⟩)⟩)⟩)⟩)⟩)⟩)⟩)⟩)⟩)⟩)⟩)⟩)⟩)⟩)⟩)⟩)⟩)⟩)⟩)⟩)⟩)⟩)⟩)⟩)⟩)⟩)⟩)⟩)⟩)⟩)⟩)⟩)
def sizL : List (Nat × Nat) := [(0, 1), (1, 1), (2, 1), (3, 1), (4, 1), (5, 1), (6, 1), (7, 4), (8, 4), (9, 1), (10, 1), (11, 1), (12, 1), (13, 2), (14, 2), (15, 1), (16, 1), (17, 1), (18, 1), (19, 1), (20, 1), (21, 1), (22, 1), (23, 1), (24, 1), (25, 1), (26, 1), (27, 9), (28, 9), (29, 3), (30, 3), (31, 1), (32, 1), (33, 1), (34, 11), (35, 11), (36, 16), (37, 16), (38, 1), (39, 1), (40, 1), (41, 1), (42, 1), (43, 1), (44, 1), (45, 1), (46, 1), (47, 1), (48, 1), (49, 1), (50, 1), (51, 1), (52, 1), (53, 1), (54, 1), (55, 1), (56, 1), (57, 1), (58, 7), (59, 7), (60, 1), (61, 1), (62, 1), (63, 2), (64, 2), (65, 3), (66, 3), (67, 1), (68, 4), (69, 4), (70, 1), (71, 1), (72, 1), (73, 1), (74, 1), (75, 1), (76, 1), (77, 1), (78, 1), (79, 1), (80, 1), (81, 1), (82, 1), (83, 1), (84, 1), (85, 1), (86, 1), (87, 1), (88, 1), (89, 1), (90, 1), (91, 1), (92, 1), (93, 1), (94, 2), (95, 2), (96, 4), (97, 4), (98, 1), (99, 1), (100, 1), (101, 1), (102, 1), (103, 1), (104, 4), (105, 1), (106, 1), (107, 1), (108, 1), (109, 1), (110, 5), (111, 1), (112, 1), (113, 1), (114, 1), (115, 1), (116, 1), (117, 1), (118, 1), (119, 1), (120, 1), (121, 1), (122, 1), (123, 1), (124, 1), (125, 1), (126, 1), (127, 2), (128, 2), (129, 3), (130, 3), (131, 1), (132, 1), (133, 1), (134, 1), (135, 1), (136, 1), (137, 1), (138, 1), (139, 2), (140, 2), (141, 2), (142, 2), (143, 10), (144, 1), (145, 1), (146, 1), (147, 1), (148, 1), (149, 1), (150, 1), (151, 1), (152, 1), (153, 1), (154, 1), (155, 1), (156, 1), (157, 1), (158, 1), (159, 1), (160, 2), (161, 2), (162, 1), (163, 1), (164, 1), (165, 1), (166, 1), (167, 1), (168, 1), (169, 1), (170, 1), (171, 1), (172, 1), (173, 1), (174, 1), (175, 1), (176, 1), (177, 15), (178, 15), (179, 1), (180, 3), (181, 1), (182, 10), (183, 10), (184, 1), (185, 1), (186, 1), (187, 1), (188, 1), (189, 1), (190, 1), (191, 1), (192, 1), (193, 1), (194, 1), (195, 1), (196, 1), (197, 1), (198, 1), (199, 4), (200, 4), (201, 0), (202, 0), (203, 0), (204, 1), (205, 1), (206, 1), (207, 1), (208, 1), (209, 11), (210, 11)]
set_option maxRecDepth 100000 in
theorem sizAll : ∀ x ∈ sizL, ∀ w, (sizeOf x.1).run Tryz.prog w = .ok x.2 w :=
  (List.forall_mem_cons.2 ⟨Tryz.sizeOf0, (List.forall_mem_cons.2 ⟨Tryz.sizeOf1, (List.forall_mem_cons.2 ⟨Tryz.sizeOf2, (List.forall_mem_cons.2 ⟨Tryz.sizeOf3, (List.forall_mem_cons.2 ⟨Tryz.sizeOf4, (List.forall_mem_cons.2 ⟨Tryz.sizeOf5, (List.forall_mem_cons.2 ⟨Tryz.sizeOf6, (List.forall_mem_cons.2 ⟨Tryz.sizeOf7, (List.forall_mem_cons.2 ⟨Tryz.sizeOf8, (List.forall_mem_cons.2 ⟨Tryz.sizeOf9, (List.forall_mem_cons.2 ⟨Tryz.sizeOf10, (List.forall_mem_cons.2 ⟨Tryz.sizeOf11, (List.forall_mem_cons.2 ⟨Tryz.sizeOf12, (List.forall_mem_cons.2 ⟨Tryz.sizeOf13, (List.forall_mem_cons.2 ⟨Tryz.sizeOf14, (List.forall_mem_cons.2 ⟨Tryz.sizeOf15, (List.forall_mem_cons.2 ⟨Tryz.sizeOf16, (List.forall_mem_cons.2 ⟨Tryz.sizeOf17, (List.forall_mem_cons.2 ⟨Tryz.sizeOf18, (List.forall_mem_cons.2 ⟨Tryz.sizeOf19, (List.forall_mem_cons.2 ⟨Tryz.sizeOf20, (List.forall_mem_cons.2 ⟨Tryz.sizeOf21, (List.forall_mem_cons.2 ⟨Tryz.sizeOf22, (List.forall_mem_cons.2 ⟨Tryz.sizeOf23, (List.forall_mem_cons.2 ⟨Tryz.sizeOf24, (List.forall_mem_cons.2 ⟨Tryz.sizeOf25, (List.forall_mem_cons.2 ⟨Tryz.sizeOf26, (List.forall_mem_cons.2 ⟨Tryz.sizeOf27, (List.forall_mem_cons.2 ⟨Tryz.sizeOf28, (List.forall_mem_cons.2 ⟨Tryz.sizeOf29, (List.forall_mem_cons.2 ⟨Tryz.sizeOf30, (List.forall_mem_cons.2 ⟨Tryz.sizeOf31, (List.forall_mem_cons.2 ⟨Tryz.sizeOf32, (List.forall_mem_cons.2 ⟨Tryz.sizeOf33, (List.forall_mem_cons.2 ⟨Tryz.sizeOf34, (List.forall_mem_cons.2 ⟨Tryz.sizeOf35, (List.forall_mem_cons.2 ⟨Tryz.sizeOf36, (List.forall_mem_cons.2 ⟨Tryz.sizeOf37, (List.forall_mem_cons.2 ⟨Tryz.sizeOf38, (List.forall_mem_cons.2 ⟨Tryz.sizeOf39, (List.forall_mem_cons.2 ⟨Tryz.sizeOf40, (List.forall_mem_cons.2 ⟨Tryz.sizeOf41, (List.forall_mem_cons.2 ⟨Tryz.sizeOf42, (List.forall_mem_cons.2 ⟨Tryz.sizeOf43, (List.forall_mem_cons.2 ⟨Tryz.sizeOf44, (List.forall_mem_cons.2 ⟨Tryz.sizeOf45, (List.forall_mem_cons.2 ⟨Tryz.sizeOf46, (List.forall_mem_cons.2 ⟨Tryz.sizeOf47, (List.forall_mem_cons.2 ⟨Tryz.sizeOf48, (List.forall_mem_cons.2 ⟨Tryz.sizeOf49, (List.forall_mem_cons.2 ⟨Tryz.sizeOf50, (List.forall_mem_cons.2 ⟨Tryz.sizeOf51, (List.forall_mem_cons.2 ⟨Tryz.sizeOf52, (List.forall_mem_cons.2 ⟨Tryz.sizeOf53, (List.forall_mem_cons.2 ⟨Tryz.sizeOf54, (List.forall_mem_cons.2 ⟨Tryz.sizeOf55, (List.forall_mem_cons.2 ⟨Tryz.sizeOf56, (List.forall_mem_cons.2 ⟨Tryz.sizeOf57, (List.forall_mem_cons.2 ⟨Tryz.sizeOf58, (List.forall_mem_cons.2 ⟨Tryz.sizeOf59, (List.forall_mem_cons.2 ⟨Tryz.sizeOf60, (List.forall_mem_cons.2 ⟨Tryz.sizeOf61, (List.forall_mem_cons.2 ⟨Tryz.sizeOf62, (List.forall_mem_cons.2 ⟨Tryz.sizeOf63, (List.forall_mem_cons.2 ⟨Tryz.sizeOf64, (List.forall_mem_cons.2 ⟨Tryz.sizeOf65, (List.forall_mem_cons.2 ⟨Tryz.sizeOf66, (List.forall_mem_cons.2 ⟨Tryz.sizeOf67, (List.forall_mem_cons.2 ⟨Tryz.sizeOf68, (List.forall_mem_cons.2 ⟨Tryz.sizeOf69, (List.forall_mem_cons.2 ⟨Tryz.sizeOf70, (List.forall_mem_cons.2 ⟨Tryz.sizeOf71, (List.forall_mem_cons.2 ⟨Tryz.sizeOf72, (List.forall_mem_cons.2 ⟨Tryz.sizeOf73, (List.forall_mem_cons.2 ⟨Tryz.sizeOf74, (List.forall_mem_cons.2 ⟨Tryz.sizeOf75, (List.forall_mem_cons.2 ⟨Tryz.sizeOf76, (List.forall_mem_cons.2 ⟨Tryz.sizeOf77, (List.forall_mem_cons.2 ⟨Tryz.sizeOf78, (List.forall_mem_cons.2 ⟨Tryz.sizeOf79, (List.forall_mem_cons.2 ⟨Tryz.sizeOf80, (List.forall_mem_cons.2 ⟨Tryz.sizeOf81, (List.forall_mem_cons.2 ⟨Tryz.sizeOf82, (List.forall_mem_cons.2 ⟨Tryz.sizeOf83, (List.forall_mem_cons.2 ⟨Tryz.sizeOf84, (List.forall_mem_cons.2 ⟨Tryz.sizeOf85, (List.forall_mem_cons.2 ⟨Tryz.sizeOf86, (List.forall_mem_cons.2 ⟨Tryz.sizeOf87, (List.forall_mem_cons.2 ⟨Tryz.sizeOf88, (List.forall_mem_cons.2 ⟨Tryz.sizeOf89, (List.forall_mem_cons.2 ⟨Tryz.sizeOf90, (List.forall_mem_cons.2 ⟨Tryz.sizeOf91, (List.forall_mem_cons.2 ⟨Tryz.sizeOf92, (List.forall_mem_cons.2 ⟨Tryz.sizeOf93, (List.forall_mem_cons.2 ⟨Tryz.sizeOf94, (List.forall_mem_cons.2 ⟨Tryz.sizeOf95, (List.forall_mem_cons.2 ⟨Tryz.sizeOf96, (List.forall_mem_cons.2 ⟨Tryz.sizeOf97, (List.forall_mem_cons.2 ⟨Tryz.sizeOf98, (List.forall_mem_cons.2 ⟨Tryz.sizeOf99, (List.forall_mem_cons.2 ⟨Tryz.sizeOf100, (List.forall_mem_cons.2 ⟨Tryz.sizeOf101, (List.forall_mem_cons.2 ⟨Tryz.sizeOf102, (List.forall_mem_cons.2 ⟨Tryz.sizeOf103, (List.forall_mem_cons.2 ⟨Tryz.sizeOf104, (List.forall_mem_cons.2 ⟨Tryz.sizeOf105, (List.forall_mem_cons.2 ⟨Tryz.sizeOf106, (List.forall_mem_cons.2 ⟨Tryz.sizeOf107, (List.forall_mem_cons.2 ⟨Tryz.sizeOf108, (List.forall_mem_cons.2 ⟨Tryz.sizeOf109, (List.forall_mem_cons.2 ⟨Tryz.sizeOf110, (List.forall_mem_cons.2 ⟨Tryz.sizeOf111, (List.forall_mem_cons.2 ⟨Tryz.sizeOf112, (List.forall_mem_cons.2 ⟨Tryz.sizeOf113, (List.forall_mem_cons.2 ⟨Tryz.sizeOf114, (List.forall_mem_cons.2 ⟨Tryz.sizeOf115, (List.forall_mem_cons.2 ⟨Tryz.sizeOf116, (List.forall_mem_cons.2 ⟨Tryz.sizeOf117, (List.forall_mem_cons.2 ⟨Tryz.sizeOf118, (List.forall_mem_cons.2 ⟨Tryz.sizeOf119, (List.forall_mem_cons.2 ⟨Tryz.sizeOf120, (List.forall_mem_cons.2 ⟨Tryz.sizeOf121, (List.forall_mem_cons.2 ⟨Tryz.sizeOf122, (List.forall_mem_cons.2 ⟨Tryz.sizeOf123, (List.forall_mem_cons.2 ⟨Tryz.sizeOf124, (List.forall_mem_cons.2 ⟨Tryz.sizeOf125, (List.forall_mem_cons.2 ⟨Tryz.sizeOf126, (List.forall_mem_cons.2 ⟨Tryz.sizeOf127, (List.forall_mem_cons.2 ⟨Tryz.sizeOf128, (List.forall_mem_cons.2 ⟨Tryz.sizeOf129, (List.forall_mem_cons.2 ⟨Tryz.sizeOf130, (List.forall_mem_cons.2 ⟨Tryz.sizeOf131, (List.forall_mem_cons.2 ⟨Tryz.sizeOf132, (List.forall_mem_cons.2 ⟨Tryz.sizeOf133, (List.forall_mem_cons.2 ⟨Tryz.sizeOf134, (List.forall_mem_cons.2 ⟨Tryz.sizeOf135, (List.forall_mem_cons.2 ⟨Tryz.sizeOf136, (List.forall_mem_cons.2 ⟨Tryz.sizeOf137, (List.forall_mem_cons.2 ⟨Tryz.sizeOf138, (List.forall_mem_cons.2 ⟨Tryz.sizeOf139, (List.forall_mem_cons.2 ⟨Tryz.sizeOf140, (List.forall_mem_cons.2 ⟨Tryz.sizeOf141, (List.forall_mem_cons.2 ⟨Tryz.sizeOf142, (List.forall_mem_cons.2 ⟨Tryz.sizeOf143, (List.forall_mem_cons.2 ⟨Tryz.sizeOf144, (List.forall_mem_cons.2 ⟨Tryz.sizeOf145, (List.forall_mem_cons.2 ⟨Tryz.sizeOf146, (List.forall_mem_cons.2 ⟨Tryz.sizeOf147, (List.forall_mem_cons.2 ⟨Tryz.sizeOf148, (List.forall_mem_cons.2 ⟨Tryz.sizeOf149, (List.forall_mem_cons.2 ⟨Tryz.sizeOf150, (List.forall_mem_cons.2 ⟨Tryz.sizeOf151, (List.forall_mem_cons.2 ⟨Tryz.sizeOf152, (List.forall_mem_cons.2 ⟨Tryz.sizeOf153, (List.forall_mem_cons.2 ⟨Tryz.sizeOf154, (List.forall_mem_cons.2 ⟨Tryz.sizeOf155, (List.forall_mem_cons.2 ⟨Tryz.sizeOf156, (List.forall_mem_cons.2 ⟨Tryz.sizeOf157, (List.forall_mem_cons.2 ⟨Tryz.sizeOf158, (List.forall_mem_cons.2 ⟨Tryz.sizeOf159, (List.forall_mem_cons.2 ⟨Tryz.sizeOf160, (List.forall_mem_cons.2 ⟨Tryz.sizeOf161, (List.forall_mem_cons.2 ⟨Tryz.sizeOf162, (List.forall_mem_cons.2 ⟨Tryz.sizeOf163, (List.forall_mem_cons.2 ⟨Tryz.sizeOf164, (List.forall_mem_cons.2 ⟨Tryz.sizeOf165, (List.forall_mem_cons.2 ⟨Tryz.sizeOf166, (List.forall_mem_cons.2 ⟨Tryz.sizeOf167, (List.forall_mem_cons.2 ⟨Tryz.sizeOf168, (List.forall_mem_cons.2 ⟨Tryz.sizeOf169, (List.forall_mem_cons.2 ⟨Tryz.sizeOf170, (List.forall_mem_cons.2 ⟨Tryz.sizeOf171, (List.forall_mem_cons.2 ⟨Tryz.sizeOf172, (List.forall_mem_cons.2 ⟨Tryz.sizeOf173, (List.forall_mem_cons.2 ⟨Tryz.sizeOf174, (List.forall_mem_cons.2 ⟨Tryz.sizeOf175, (List.forall_mem_cons.2 ⟨Tryz.sizeOf176, (List.forall_mem_cons.2 ⟨Tryz.sizeOf177, (List.forall_mem_cons.2 ⟨Tryz.sizeOf178, (List.forall_mem_cons.2 ⟨Tryz.sizeOf179, (List.forall_mem_cons.2 ⟨Tryz.sizeOf180, (List.forall_mem_cons.2 ⟨Tryz.sizeOf181, (List.forall_mem_cons.2 ⟨Tryz.sizeOf182, (List.forall_mem_cons.2 ⟨Tryz.sizeOf183, (List.forall_mem_cons.2 ⟨Tryz.sizeOf184, (List.forall_mem_cons.2 ⟨Tryz.sizeOf185, (List.forall_mem_cons.2 ⟨Tryz.sizeOf186, (List.forall_mem_cons.2 ⟨Tryz.sizeOf187, (List.forall_mem_cons.2 ⟨Tryz.sizeOf188, (List.forall_mem_cons.2 ⟨Tryz.sizeOf189, (List.forall_mem_cons.2 ⟨Tryz.sizeOf190, (List.forall_mem_cons.2 ⟨Tryz.sizeOf191, (List.forall_mem_cons.2 ⟨Tryz.sizeOf192, (List.forall_mem_cons.2 ⟨Tryz.sizeOf193, (List.forall_mem_cons.2 ⟨Tryz.sizeOf194, (List.forall_mem_cons.2 ⟨Tryz.sizeOf195, (List.forall_mem_cons.2 ⟨Tryz.sizeOf196, (List.forall_mem_cons.2 ⟨Tryz.sizeOf197, (List.forall_mem_cons.2 ⟨Tryz.sizeOf198, (List.forall_mem_cons.2 ⟨Tryz.sizeOf199, (List.forall_mem_cons.2 ⟨Tryz.sizeOf200, (List.forall_mem_cons.2 ⟨Tryz.sizeOf201, (List.forall_mem_cons.2 ⟨Tryz.sizeOf202, (List.forall_mem_cons.2 ⟨Tryz.sizeOf203, (List.forall_mem_cons.2 ⟨Tryz.sizeOf204, (List.forall_mem_cons.2 ⟨Tryz.sizeOf205, (List.forall_mem_cons.2 ⟨Tryz.sizeOf206, (List.forall_mem_cons.2 ⟨Tryz.sizeOf207, (List.forall_mem_cons.2 ⟨Tryz.sizeOf208, (List.forall_mem_cons.2 ⟨Tryz.sizeOf209, (List.forall_mem_cons.2 ⟨Tryz.sizeOf210, (List.forall_mem_nil _)⟩)⟩)⟩)⟩)⟩)⟩)⟩)⟩)⟩)⟩)⟩)⟩)⟩)⟩)⟩)⟩)⟩)⟩)⟩)⟩)⟩)⟩)⟩)⟩)⟩)⟩)⟩)⟩)⟩)⟩)⟩)⟩)⟩)⟩)⟩)⟩)⟩)⟩)⟩)⟩)⟩)⟩)⟩)⟩)⟩)⟩)⟩)⟩)⟩)⟩)⟩)⟩)⟩)⟩)⟩)⟩)⟩)⟩)⟩)⟩)⟩)⟩)⟩)⟩)⟩)⟩)⟩)⟩)⟩)⟩)⟩)⟩)⟩)⟩)⟩)⟩)⟩)⟩)⟩)⟩)⟩)⟩)⟩)⟩)⟩)⟩)⟩)⟩)⟩)⟩)⟩)⟩)⟩)⟩)⟩)⟩)⟩)⟩)⟩)⟩)⟩)⟩)⟩)⟩)⟩)⟩)⟩)⟩)⟩)⟩)⟩)⟩)⟩)⟩)⟩)⟩)⟩)⟩)⟩)⟩)⟩)⟩)⟩)⟩)⟩)⟩)⟩)⟩)⟩)⟩)⟩)⟩)⟩)⟩)⟩)⟩)⟩)⟩)⟩)⟩)⟩)⟩)⟩)⟩)⟩)⟩)⟩)⟩)⟩)⟩)⟩)⟩)⟩)⟩)⟩)⟩)⟩)⟩)⟩)⟩)⟩)⟩)⟩)⟩)⟩)⟩)⟩)⟩)⟩)⟩)⟩)⟩)⟩)⟩)⟩)⟩)⟩)⟩)⟩)⟩)⟩)⟩)⟩)⟩)⟩)⟩)⟩)⟩)⟩)⟩)⟩)⟩)⟩)⟩)⟩)⟩)⟩)⟩)⟩)⟩)⟩)⟩)⟩)⟩)⟩)⟩)⟩)⟩)⟩)⟩)⟩)
def calL : List (Nat × Unit) := [(2, ()), (3, ()), (4, ()), (5, ()), (6, ()), (7, ()), (8, ()), (9, ()), (10, ()), (11, ()), (12, ()), (13, ()), (14, ()), (15, ()), (16, ()), (17, ()), (18, ()), (19, ()), (20, ()), (21, ()), (22, ()), (23, ()), (24, ()), (25, ()), (26, ()), (27, ()), (28, ()), (29, ()), (30, ()), (31, ()), (32, ()), (33, ()), (34, ()), (35, ()), (36, ()), (37, ()), (38, ()), (39, ()), (40, ()), (41, ()), (42, ()), (43, ()), (44, ()), (45, ()), (46, ()), (47, ()), (48, ()), (49, ()), (50, ()), (51, ()), (52, ()), (53, ()), (54, ()), (55, ()), (56, ()), (57, ()), (58, ()), (59, ()), (60, ()), (61, ()), (62, ()), (63, ()), (64, ()), (65, ()), (66, ()), (67, ()), (68, ()), (69, ()), (70, ()), (71, ()), (72, ()), (73, ()), (74, ()), (75, ()), (76, ()), (77, ()), (78, ()), (79, ()), (80, ()), (81, ()), (82, ()), (83, ()), (84, ()), (85, ()), (86, ()), (87, ()), (88, ()), (89, ()), (90, ()), (91, ()), (92, ()), (93, ()), (94, ()), (95, ()), (96, ()), (97, ()), (98, ()), (99, ()), (100, ()), (101, ()), (102, ()), (103, ()), (104, ()), (105, ()), (106, ()), (107, ()), (108, ()), (109, ()), (110, ()), (111, ()), (112, ()), (113, ()), (114, ()), (115, ()), (116, ()), (117, ()), (118, ()), (119, ()), (120, ()), (121, ()), (122, ()), (123, ()), (124, ()), (125, ()), (126, ()), (127, ()), (128, ()), (129, ()), (130, ()), (131, ()), (132, ()), (133, ()), (134, ()), (135, ()), (136, ()), (137, ()), (138, ()), (139, ()), (140, ()), (141, ()), (142, ()), (143, ()), (144, ()), (146, ()), (147, ()), (148, ())]
set_option maxRecDepth 100000 in
theorem calAll : ∀ x ∈ calL, ∀ args w, (callFunc x.1 args).run Tryz.prog w = .ok (.enter x.1 args) w :=
  (List.forall_mem_cons.2 ⟨Tryz.call2, (List.forall_mem_cons.2 ⟨Tryz.call3, (List.forall_mem_cons.2 ⟨Tryz.call4, (List.forall_mem_cons.2 ⟨Tryz.call5, (List.forall_mem_cons.2 ⟨Tryz.call6, (List.forall_mem_cons.2 ⟨Tryz.call7, (List.forall_mem_cons.2 ⟨Tryz.call8, (List.forall_mem_cons.2 ⟨Tryz.call9, (List.forall_mem_cons.2 ⟨Tryz.call10, (List.forall_mem_cons.2 ⟨Tryz.call11, (List.forall_mem_cons.2 ⟨Tryz.call12, (List.forall_mem_cons.2 ⟨Tryz.call13, (List.forall_mem_cons.2 ⟨Tryz.call14, (List.forall_mem_cons.2 ⟨Tryz.call15, (List.forall_mem_cons.2 ⟨Tryz.call16, (List.forall_mem_cons.2 ⟨Tryz.call17, (List.forall_mem_cons.2 ⟨Tryz.call18, (List.forall_mem_cons.2 ⟨Tryz.call19, (List.forall_mem_cons.2 ⟨Tryz.call20, (List.forall_mem_cons.2 ⟨Tryz.call21, (List.forall_mem_cons.2 ⟨Tryz.call22, (List.forall_mem_cons.2 ⟨Tryz.call23, (List.forall_mem_cons.2 ⟨Tryz.call24, (List.forall_mem_cons.2 ⟨Tryz.call25, (List.forall_mem_cons.2 ⟨Tryz.call26, (List.forall_mem_cons.2 ⟨Tryz.call27, (List.forall_mem_cons.2 ⟨Tryz.call28, (List.forall_mem_cons.2 ⟨Tryz.call29, (List.forall_mem_cons.2 ⟨Tryz.call30, (List.forall_mem_cons.2 ⟨Tryz.call31, (List.forall_mem_cons.2 ⟨Tryz.call32, (List.forall_mem_cons.2 ⟨Tryz.call33, (List.forall_mem_cons.2 ⟨Tryz.call34, (List.forall_mem_cons.2 ⟨Tryz.call35, (List.forall_mem_cons.2 ⟨Tryz.call36, (List.forall_mem_cons.2 ⟨Tryz.call37, (List.forall_mem_cons.2 ⟨Tryz.call38, (List.forall_mem_cons.2 ⟨Tryz.call39, (List.forall_mem_cons.2 ⟨Tryz.call40, (List.forall_mem_cons.2 ⟨Tryz.call41, (List.forall_mem_cons.2 ⟨Tryz.call42, (List.forall_mem_cons.2 ⟨Tryz.call43, (List.forall_mem_cons.2 ⟨Tryz.call44, (List.forall_mem_cons.2 ⟨Tryz.call45, (List.forall_mem_cons.2 ⟨Tryz.call46, (List.forall_mem_cons.2 ⟨Tryz.call47, (List.forall_mem_cons.2 ⟨Tryz.call48, (List.forall_mem_cons.2 ⟨Tryz.call49, (List.forall_mem_cons.2 ⟨Tryz.call50, (List.forall_mem_cons.2 ⟨Tryz.call51, (List.forall_mem_cons.2 ⟨Tryz.call52, (List.forall_mem_cons.2 ⟨Tryz.call53, (List.forall_mem_cons.2 ⟨Tryz.call54, (List.forall_mem_cons.2 ⟨Tryz.call55, (List.forall_mem_cons.2 ⟨Tryz.call56, (List.forall_mem_cons.2 ⟨Tryz.call57, (List.forall_mem_cons.2 ⟨Tryz.call58, (List.forall_mem_cons.2 ⟨Tryz.call59, (List.forall_mem_cons.2 ⟨Tryz.call60, (List.forall_mem_cons.2 ⟨Tryz.call61, (List.forall_mem_cons.2 ⟨Tryz.call62, (List.forall_mem_cons.2 ⟨Tryz.call63, (List.forall_mem_cons.2 ⟨Tryz.call64, (List.forall_mem_cons.2 ⟨Tryz.call65, (List.forall_mem_cons.2 ⟨Tryz.call66, (List.forall_mem_cons.2 ⟨Tryz.call67, (List.forall_mem_cons.2 ⟨Tryz.call68, (List.forall_mem_cons.2 ⟨Tryz.call69, (List.forall_mem_cons.2 ⟨Tryz.call70, (List.forall_mem_cons.2 ⟨Tryz.call71, (List.forall_mem_cons.2 ⟨Tryz.call72, (List.forall_mem_cons.2 ⟨Tryz.call73, (List.forall_mem_cons.2 ⟨Tryz.call74, (List.forall_mem_cons.2 ⟨Tryz.call75, (List.forall_mem_cons.2 ⟨Tryz.call76, (List.forall_mem_cons.2 ⟨Tryz.call77, (List.forall_mem_cons.2 ⟨Tryz.call78, (List.forall_mem_cons.2 ⟨Tryz.call79, (List.forall_mem_cons.2 ⟨Tryz.call80, (List.forall_mem_cons.2 ⟨Tryz.call81, (List.forall_mem_cons.2 ⟨Tryz.call82, (List.forall_mem_cons.2 ⟨Tryz.call83, (List.forall_mem_cons.2 ⟨Tryz.call84, (List.forall_mem_cons.2 ⟨Tryz.call85, (List.forall_mem_cons.2 ⟨Tryz.call86, (List.forall_mem_cons.2 ⟨Tryz.call87, (List.forall_mem_cons.2 ⟨Tryz.call88, (List.forall_mem_cons.2 ⟨Tryz.call89, (List.forall_mem_cons.2 ⟨Tryz.call90, (List.forall_mem_cons.2 ⟨Tryz.call91, (List.forall_mem_cons.2 ⟨Tryz.call92, (List.forall_mem_cons.2 ⟨Tryz.call93, (List.forall_mem_cons.2 ⟨Tryz.call94, (List.forall_mem_cons.2 ⟨Tryz.call95, (List.forall_mem_cons.2 ⟨Tryz.call96, (List.forall_mem_cons.2 ⟨Tryz.call97, (List.forall_mem_cons.2 ⟨Tryz.call98, (List.forall_mem_cons.2 ⟨Tryz.call99, (List.forall_mem_cons.2 ⟨Tryz.call100, (List.forall_mem_cons.2 ⟨Tryz.call101, (List.forall_mem_cons.2 ⟨Tryz.call102, (List.forall_mem_cons.2 ⟨Tryz.call103, (List.forall_mem_cons.2 ⟨Tryz.call104, (List.forall_mem_cons.2 ⟨Tryz.call105, (List.forall_mem_cons.2 ⟨Tryz.call106, (List.forall_mem_cons.2 ⟨Tryz.call107, (List.forall_mem_cons.2 ⟨Tryz.call108, (List.forall_mem_cons.2 ⟨Tryz.call109, (List.forall_mem_cons.2 ⟨Tryz.call110, (List.forall_mem_cons.2 ⟨Tryz.call111, (List.forall_mem_cons.2 ⟨Tryz.call112, (List.forall_mem_cons.2 ⟨Tryz.call113, (List.forall_mem_cons.2 ⟨Tryz.call114, (List.forall_mem_cons.2 ⟨Tryz.call115, (List.forall_mem_cons.2 ⟨Tryz.call116, (List.forall_mem_cons.2 ⟨Tryz.call117, (List.forall_mem_cons.2 ⟨Tryz.call118, (List.forall_mem_cons.2 ⟨Tryz.call119, (List.forall_mem_cons.2 ⟨Tryz.call120, (List.forall_mem_cons.2 ⟨Tryz.call121, (List.forall_mem_cons.2 ⟨Tryz.call122, (List.forall_mem_cons.2 ⟨Tryz.call123, (List.forall_mem_cons.2 ⟨Tryz.call124, (List.forall_mem_cons.2 ⟨Tryz.call125, (List.forall_mem_cons.2 ⟨Tryz.call126, (List.forall_mem_cons.2 ⟨Tryz.call127, (List.forall_mem_cons.2 ⟨Tryz.call128, (List.forall_mem_cons.2 ⟨Tryz.call129, (List.forall_mem_cons.2 ⟨Tryz.call130, (List.forall_mem_cons.2 ⟨Tryz.call131, (List.forall_mem_cons.2 ⟨Tryz.call132, (List.forall_mem_cons.2 ⟨Tryz.call133, (List.forall_mem_cons.2 ⟨Tryz.call134, (List.forall_mem_cons.2 ⟨Tryz.call135, (List.forall_mem_cons.2 ⟨Tryz.call136, (List.forall_mem_cons.2 ⟨Tryz.call137, (List.forall_mem_cons.2 ⟨Tryz.call138, (List.forall_mem_cons.2 ⟨Tryz.call139, (List.forall_mem_cons.2 ⟨Tryz.call140, (List.forall_mem_cons.2 ⟨Tryz.call141, (List.forall_mem_cons.2 ⟨Tryz.call142, (List.forall_mem_cons.2 ⟨Tryz.call143, (List.forall_mem_cons.2 ⟨Tryz.call144, (List.forall_mem_cons.2 ⟨Tryz.call146, (List.forall_mem_cons.2 ⟨Tryz.call147, (List.forall_mem_cons.2 ⟨Tryz.call148, (List.forall_mem_nil _)⟩)⟩)⟩)⟩)⟩)⟩)⟩)⟩)⟩)⟩)⟩)⟩)⟩)⟩)⟩)⟩)⟩)⟩)⟩)⟩)⟩)⟩)⟩)⟩)⟩)⟩)⟩)⟩)⟩)⟩)⟩)⟩)⟩)⟩)⟩)⟩)⟩)⟩)⟩)⟩)⟩)⟩)⟩)⟩)⟩)⟩)⟩)⟩)⟩)⟩)⟩)⟩)⟩)⟩)⟩)⟩)⟩)⟩)⟩)⟩)⟩)⟩)⟩)⟩)⟩)⟩)⟩)⟩)⟩)⟩)⟩)⟩)⟩)⟩)⟩)⟩)⟩)⟩)⟩)⟩)⟩)⟩)⟩)⟩)⟩)⟩)⟩)⟩)⟩)⟩)⟩)⟩)⟩)⟩)⟩)⟩)⟩)⟩)⟩)⟩)⟩)⟩)⟩)⟩)⟩)⟩)⟩)⟩)⟩)⟩)⟩)⟩)⟩)⟩)⟩)⟩)⟩)⟩)⟩)⟩)⟩)⟩)⟩)⟩)⟩)⟩)⟩)⟩)⟩)⟩)⟩)⟩)⟩)⟩)⟩)⟩)⟩)⟩)⟩)⟩)⟩)⟩)⟩)⟩)⟩)⟩)
theorem fld_7_0 (n o : Nat) (w : World) : (Instr.fieldAt 7 (.pointer (some ⟨n, o, none⟩)) 0).run Tryz.prog w = .ok (.pointer (some ⟨n, o + 0, none⟩)) w := by
  simp [Instr.fieldAt, go_sem, add_none]
theorem fld_7_1 (n o : Nat) (w : World) : (Instr.fieldAt 7 (.pointer (some ⟨n, o, none⟩)) 1).run Tryz.prog w = .ok (.pointer (some ⟨n, o + 1, none⟩)) w := by
  simp [Instr.fieldAt, go_sem, add_none]
theorem fld_7_2 (n o : Nat) (w : World) : (Instr.fieldAt 7 (.pointer (some ⟨n, o, none⟩)) 2).run Tryz.prog w = .ok (.pointer (some ⟨n, o + 2, none⟩)) w := by
  simp [Instr.fieldAt, go_sem, add_none]
theorem fld_7_3 (n o : Nat) (w : World) : (Instr.fieldAt 7 (.pointer (some ⟨n, o, none⟩)) 3).run Tryz.prog w = .ok (.pointer (some ⟨n, o + 3, none⟩)) w := by
  simp [Instr.fieldAt, go_sem, add_none]
theorem fld_7 : ∀ (k off : Nat), ([some 0, some 1, some 2, some 3] : List (Option Nat))[k]? = some (some off) → ∀ (n o : Nat) (w : World), (Instr.fieldAt 7 (.pointer (some ⟨n, o, none⟩)) k).run Tryz.prog w = .ok (.pointer (some ⟨n, o + off, none⟩)) w
  | 0, _, h => by simp at h; subst h; exact fld_7_0
  | 1, _, h => by simp at h; subst h; exact fld_7_1
  | 2, _, h => by simp at h; subst h; exact fld_7_2
  | 3, _, h => by simp at h; subst h; exact fld_7_3
  | k + 4, _, h => by simp at h
theorem fld_8_0 (n o : Nat) (w : World) : (Instr.fieldAt 8 (.pointer (some ⟨n, o, none⟩)) 0).run Tryz.prog w = .ok (.pointer (some ⟨n, o + 0, none⟩)) w := by
  simp [Instr.fieldAt, go_sem, add_none]
theorem fld_8_1 (n o : Nat) (w : World) : (Instr.fieldAt 8 (.pointer (some ⟨n, o, none⟩)) 1).run Tryz.prog w = .ok (.pointer (some ⟨n, o + 1, none⟩)) w := by
  simp [Instr.fieldAt, go_sem, add_none]
theorem fld_8_2 (n o : Nat) (w : World) : (Instr.fieldAt 8 (.pointer (some ⟨n, o, none⟩)) 2).run Tryz.prog w = .ok (.pointer (some ⟨n, o + 2, none⟩)) w := by
  simp [Instr.fieldAt, go_sem, add_none]
theorem fld_8_3 (n o : Nat) (w : World) : (Instr.fieldAt 8 (.pointer (some ⟨n, o, none⟩)) 3).run Tryz.prog w = .ok (.pointer (some ⟨n, o + 3, none⟩)) w := by
  simp [Instr.fieldAt, go_sem, add_none]
theorem fld_8 : ∀ (k off : Nat), ([some 0, some 1, some 2, some 3] : List (Option Nat))[k]? = some (some off) → ∀ (n o : Nat) (w : World), (Instr.fieldAt 8 (.pointer (some ⟨n, o, none⟩)) k).run Tryz.prog w = .ok (.pointer (some ⟨n, o + off, none⟩)) w
  | 0, _, h => by simp at h; subst h; exact fld_8_0
  | 1, _, h => by simp at h; subst h; exact fld_8_1
  | 2, _, h => by simp at h; subst h; exact fld_8_2
  | 3, _, h => by simp at h; subst h; exact fld_8_3
  | k + 4, _, h => by simp at h
theorem fld_13_0 (n o : Nat) (w : World) : (Instr.fieldAt 13 (.pointer (some ⟨n, o, none⟩)) 0).run Tryz.prog w = .ok (.pointer (some ⟨n, o + 0, none⟩)) w := by
  simp [Instr.fieldAt, go_sem, add_none]
theorem fld_13_1 (n o : Nat) (w : World) : (Instr.fieldAt 13 (.pointer (some ⟨n, o, none⟩)) 1).run Tryz.prog w = .ok (.pointer (some ⟨n, o + 1, none⟩)) w := by
  simp [Instr.fieldAt, go_sem, add_none]
theorem fld_13 : ∀ (k off : Nat), ([some 0, some 1] : List (Option Nat))[k]? = some (some off) → ∀ (n o : Nat) (w : World), (Instr.fieldAt 13 (.pointer (some ⟨n, o, none⟩)) k).run Tryz.prog w = .ok (.pointer (some ⟨n, o + off, none⟩)) w
  | 0, _, h => by simp at h; subst h; exact fld_13_0
  | 1, _, h => by simp at h; subst h; exact fld_13_1
  | k + 2, _, h => by simp at h
theorem fld_14_0 (n o : Nat) (w : World) : (Instr.fieldAt 14 (.pointer (some ⟨n, o, none⟩)) 0).run Tryz.prog w = .ok (.pointer (some ⟨n, o + 0, none⟩)) w := by
  simp [Instr.fieldAt, go_sem, add_none]
theorem fld_14_1 (n o : Nat) (w : World) : (Instr.fieldAt 14 (.pointer (some ⟨n, o, none⟩)) 1).run Tryz.prog w = .ok (.pointer (some ⟨n, o + 1, none⟩)) w := by
  simp [Instr.fieldAt, go_sem, add_none]
theorem fld_14 : ∀ (k off : Nat), ([some 0, some 1] : List (Option Nat))[k]? = some (some off) → ∀ (n o : Nat) (w : World), (Instr.fieldAt 14 (.pointer (some ⟨n, o, none⟩)) k).run Tryz.prog w = .ok (.pointer (some ⟨n, o + off, none⟩)) w
  | 0, _, h => by simp at h; subst h; exact fld_14_0
  | 1, _, h => by simp at h; subst h; exact fld_14_1
  | k + 2, _, h => by simp at h
theorem fld_18_0 (n o : Nat) (w : World) : (Instr.fieldAt 18 (.pointer (some ⟨n, o, none⟩)) 0).run Tryz.prog w = .ok (.pointer (some ⟨n, o + 0, none⟩)) w := by
  simp [Instr.fieldAt, go_sem, add_none]
theorem fld_18 : ∀ (k off : Nat), ([some 0] : List (Option Nat))[k]? = some (some off) → ∀ (n o : Nat) (w : World), (Instr.fieldAt 18 (.pointer (some ⟨n, o, none⟩)) k).run Tryz.prog w = .ok (.pointer (some ⟨n, o + off, none⟩)) w
  | 0, _, h => by simp at h; subst h; exact fld_18_0
  | k + 1, _, h => by simp at h
theorem fld_19_0 (n o : Nat) (w : World) : (Instr.fieldAt 19 (.pointer (some ⟨n, o, none⟩)) 0).run Tryz.prog w = .ok (.pointer (some ⟨n, o + 0, none⟩)) w := by
  simp [Instr.fieldAt, go_sem, add_none]
theorem fld_19 : ∀ (k off : Nat), ([some 0] : List (Option Nat))[k]? = some (some off) → ∀ (n o : Nat) (w : World), (Instr.fieldAt 19 (.pointer (some ⟨n, o, none⟩)) k).run Tryz.prog w = .ok (.pointer (some ⟨n, o + off, none⟩)) w
  | 0, _, h => by simp at h; subst h; exact fld_19_0
  | k + 1, _, h => by simp at h
theorem fld_27_0 (n o : Nat) (w : World) : (Instr.fieldAt 27 (.pointer (some ⟨n, o, none⟩)) 0).run Tryz.prog w = .ok (.pointer (some ⟨n, o + 0, none⟩)) w := by
  simp [Instr.fieldAt, go_sem, add_none]
theorem fld_27_1 (n o : Nat) (w : World) : (Instr.fieldAt 27 (.pointer (some ⟨n, o, none⟩)) 1).run Tryz.prog w = .ok (.pointer (some ⟨n, o + 1, none⟩)) w := by
  simp [Instr.fieldAt, go_sem, add_none]
theorem fld_27_2 (n o : Nat) (w : World) : (Instr.fieldAt 27 (.pointer (some ⟨n, o, none⟩)) 2).run Tryz.prog w = .ok (.pointer (some ⟨n, o + 2, none⟩)) w := by
  simp [Instr.fieldAt, go_sem, add_none]
theorem fld_27_3 (n o : Nat) (w : World) : (Instr.fieldAt 27 (.pointer (some ⟨n, o, none⟩)) 3).run Tryz.prog w = .ok (.pointer (some ⟨n, o + 3, none⟩)) w := by
  simp [Instr.fieldAt, go_sem, add_none]
theorem fld_27_4 (n o : Nat) (w : World) : (Instr.fieldAt 27 (.pointer (some ⟨n, o, none⟩)) 4).run Tryz.prog w = .ok (.pointer (some ⟨n, o + 4, none⟩)) w := by
  simp [Instr.fieldAt, go_sem, add_none]
theorem fld_27_5 (n o : Nat) (w : World) : (Instr.fieldAt 27 (.pointer (some ⟨n, o, none⟩)) 5).run Tryz.prog w = .ok (.pointer (some ⟨n, o + 5, none⟩)) w := by
  simp [Instr.fieldAt, go_sem, add_none]
theorem fld_27_6 (n o : Nat) (w : World) : (Instr.fieldAt 27 (.pointer (some ⟨n, o, none⟩)) 6).run Tryz.prog w = .ok (.pointer (some ⟨n, o + 6, none⟩)) w := by
  simp [Instr.fieldAt, go_sem, add_none]
theorem fld_27_7 (n o : Nat) (w : World) : (Instr.fieldAt 27 (.pointer (some ⟨n, o, none⟩)) 7).run Tryz.prog w = .ok (.pointer (some ⟨n, o + 7, none⟩)) w := by
  simp [Instr.fieldAt, go_sem, add_none]
theorem fld_27_8 (n o : Nat) (w : World) : (Instr.fieldAt 27 (.pointer (some ⟨n, o, none⟩)) 8).run Tryz.prog w = .ok (.pointer (some ⟨n, o + 8, none⟩)) w := by
  simp [Instr.fieldAt, go_sem, add_none]
theorem fld_27 : ∀ (k off : Nat), ([some 0, some 1, some 2, some 3, some 4, some 5, some 6, some 7, some 8] : List (Option Nat))[k]? = some (some off) → ∀ (n o : Nat) (w : World), (Instr.fieldAt 27 (.pointer (some ⟨n, o, none⟩)) k).run Tryz.prog w = .ok (.pointer (some ⟨n, o + off, none⟩)) w
  | 0, _, h => by simp at h; subst h; exact fld_27_0
  | 1, _, h => by simp at h; subst h; exact fld_27_1
  | 2, _, h => by simp at h; subst h; exact fld_27_2
  | 3, _, h => by simp at h; subst h; exact fld_27_3
  | 4, _, h => by simp at h; subst h; exact fld_27_4
  | 5, _, h => by simp at h; subst h; exact fld_27_5
  | 6, _, h => by simp at h; subst h; exact fld_27_6
  | 7, _, h => by simp at h; subst h; exact fld_27_7
  | 8, _, h => by simp at h; subst h; exact fld_27_8
  | k + 9, _, h => by simp at h
theorem fld_28_0 (n o : Nat) (w : World) : (Instr.fieldAt 28 (.pointer (some ⟨n, o, none⟩)) 0).run Tryz.prog w = .ok (.pointer (some ⟨n, o + 0, none⟩)) w := by
  simp [Instr.fieldAt, go_sem, add_none]
theorem fld_28_1 (n o : Nat) (w : World) : (Instr.fieldAt 28 (.pointer (some ⟨n, o, none⟩)) 1).run Tryz.prog w = .ok (.pointer (some ⟨n, o + 1, none⟩)) w := by
  simp [Instr.fieldAt, go_sem, add_none]
theorem fld_28_2 (n o : Nat) (w : World) : (Instr.fieldAt 28 (.pointer (some ⟨n, o, none⟩)) 2).run Tryz.prog w = .ok (.pointer (some ⟨n, o + 2, none⟩)) w := by
  simp [Instr.fieldAt, go_sem, add_none]
theorem fld_28_3 (n o : Nat) (w : World) : (Instr.fieldAt 28 (.pointer (some ⟨n, o, none⟩)) 3).run Tryz.prog w = .ok (.pointer (some ⟨n, o + 3, none⟩)) w := by
  simp [Instr.fieldAt, go_sem, add_none]
theorem fld_28_4 (n o : Nat) (w : World) : (Instr.fieldAt 28 (.pointer (some ⟨n, o, none⟩)) 4).run Tryz.prog w = .ok (.pointer (some ⟨n, o + 4, none⟩)) w := by
  simp [Instr.fieldAt, go_sem, add_none]
theorem fld_28_5 (n o : Nat) (w : World) : (Instr.fieldAt 28 (.pointer (some ⟨n, o, none⟩)) 5).run Tryz.prog w = .ok (.pointer (some ⟨n, o + 5, none⟩)) w := by
  simp [Instr.fieldAt, go_sem, add_none]
theorem fld_28_6 (n o : Nat) (w : World) : (Instr.fieldAt 28 (.pointer (some ⟨n, o, none⟩)) 6).run Tryz.prog w = .ok (.pointer (some ⟨n, o + 6, none⟩)) w := by
  simp [Instr.fieldAt, go_sem, add_none]
theorem fld_28_7 (n o : Nat) (w : World) : (Instr.fieldAt 28 (.pointer (some ⟨n, o, none⟩)) 7).run Tryz.prog w = .ok (.pointer (some ⟨n, o + 7, none⟩)) w := by
  simp [Instr.fieldAt, go_sem, add_none]
theorem fld_28_8 (n o : Nat) (w : World) : (Instr.fieldAt 28 (.pointer (some ⟨n, o, none⟩)) 8).run Tryz.prog w = .ok (.pointer (some ⟨n, o + 8, none⟩)) w := by
  simp [Instr.fieldAt, go_sem, add_none]
theorem fld_28 : ∀ (k off : Nat), ([some 0, some 1, some 2, some 3, some 4, some 5, some 6, some 7, some 8] : List (Option Nat))[k]? = some (some off) → ∀ (n o : Nat) (w : World), (Instr.fieldAt 28 (.pointer (some ⟨n, o, none⟩)) k).run Tryz.prog w = .ok (.pointer (some ⟨n, o + off, none⟩)) w
  | 0, _, h => by simp at h; subst h; exact fld_28_0
  | 1, _, h => by simp at h; subst h; exact fld_28_1
  | 2, _, h => by simp at h; subst h; exact fld_28_2
  | 3, _, h => by simp at h; subst h; exact fld_28_3
  | 4, _, h => by simp at h; subst h; exact fld_28_4
  | 5, _, h => by simp at h; subst h; exact fld_28_5
  | 6, _, h => by simp at h; subst h; exact fld_28_6
  | 7, _, h => by simp at h; subst h; exact fld_28_7
  | 8, _, h => by simp at h; subst h; exact fld_28_8
  | k + 9, _, h => by simp at h
theorem fld_29_0 (n o : Nat) (w : World) : (Instr.fieldAt 29 (.pointer (some ⟨n, o, none⟩)) 0).run Tryz.prog w = .ok (.pointer (some ⟨n, o + 0, none⟩)) w := by
  simp [Instr.fieldAt, go_sem, add_none]
theorem fld_29_1 (n o : Nat) (w : World) : (Instr.fieldAt 29 (.pointer (some ⟨n, o, none⟩)) 1).run Tryz.prog w = .ok (.pointer (some ⟨n, o + 1, none⟩)) w := by
  simp [Instr.fieldAt, go_sem, add_none]
theorem fld_29_2 (n o : Nat) (w : World) : (Instr.fieldAt 29 (.pointer (some ⟨n, o, none⟩)) 2).run Tryz.prog w = .ok (.pointer (some ⟨n, o + 2, none⟩)) w := by
  simp [Instr.fieldAt, go_sem, add_none]
theorem fld_29 : ∀ (k off : Nat), ([some 0, some 1, some 2] : List (Option Nat))[k]? = some (some off) → ∀ (n o : Nat) (w : World), (Instr.fieldAt 29 (.pointer (some ⟨n, o, none⟩)) k).run Tryz.prog w = .ok (.pointer (some ⟨n, o + off, none⟩)) w
  | 0, _, h => by simp at h; subst h; exact fld_29_0
  | 1, _, h => by simp at h; subst h; exact fld_29_1
  | 2, _, h => by simp at h; subst h; exact fld_29_2
  | k + 3, _, h => by simp at h
theorem fld_30_0 (n o : Nat) (w : World) : (Instr.fieldAt 30 (.pointer (some ⟨n, o, none⟩)) 0).run Tryz.prog w = .ok (.pointer (some ⟨n, o + 0, none⟩)) w := by
  simp [Instr.fieldAt, go_sem, add_none]
theorem fld_30_1 (n o : Nat) (w : World) : (Instr.fieldAt 30 (.pointer (some ⟨n, o, none⟩)) 1).run Tryz.prog w = .ok (.pointer (some ⟨n, o + 1, none⟩)) w := by
  simp [Instr.fieldAt, go_sem, add_none]
theorem fld_30_2 (n o : Nat) (w : World) : (Instr.fieldAt 30 (.pointer (some ⟨n, o, none⟩)) 2).run Tryz.prog w = .ok (.pointer (some ⟨n, o + 2, none⟩)) w := by
  simp [Instr.fieldAt, go_sem, add_none]
theorem fld_30 : ∀ (k off : Nat), ([some 0, some 1, some 2] : List (Option Nat))[k]? = some (some off) → ∀ (n o : Nat) (w : World), (Instr.fieldAt 30 (.pointer (some ⟨n, o, none⟩)) k).run Tryz.prog w = .ok (.pointer (some ⟨n, o + off, none⟩)) w
  | 0, _, h => by simp at h; subst h; exact fld_30_0
  | 1, _, h => by simp at h; subst h; exact fld_30_1
  | 2, _, h => by simp at h; subst h; exact fld_30_2
  | k + 3, _, h => by simp at h
theorem fld_34_0 (n o : Nat) (w : World) : (Instr.fieldAt 34 (.pointer (some ⟨n, o, none⟩)) 0).run Tryz.prog w = .ok (.pointer (some ⟨n, o + 0, none⟩)) w := by
  simp [Instr.fieldAt, go_sem, add_none]
theorem fld_34_1 (n o : Nat) (w : World) : (Instr.fieldAt 34 (.pointer (some ⟨n, o, none⟩)) 1).run Tryz.prog w = .ok (.pointer (some ⟨n, o + 1, none⟩)) w := by
  simp [Instr.fieldAt, go_sem, add_none]
theorem fld_34_2 (n o : Nat) (w : World) : (Instr.fieldAt 34 (.pointer (some ⟨n, o, none⟩)) 2).run Tryz.prog w = .ok (.pointer (some ⟨n, o + 2, none⟩)) w := by
  simp [Instr.fieldAt, go_sem, add_none]
theorem fld_34_3 (n o : Nat) (w : World) : (Instr.fieldAt 34 (.pointer (some ⟨n, o, none⟩)) 3).run Tryz.prog w = .ok (.pointer (some ⟨n, o + 3, none⟩)) w := by
  simp [Instr.fieldAt, go_sem, add_none]
theorem fld_34_4 (n o : Nat) (w : World) : (Instr.fieldAt 34 (.pointer (some ⟨n, o, none⟩)) 4).run Tryz.prog w = .ok (.pointer (some ⟨n, o + 4, none⟩)) w := by
  simp [Instr.fieldAt, go_sem, add_none]
theorem fld_34_5 (n o : Nat) (w : World) : (Instr.fieldAt 34 (.pointer (some ⟨n, o, none⟩)) 5).run Tryz.prog w = .ok (.pointer (some ⟨n, o + 5, none⟩)) w := by
  simp [Instr.fieldAt, go_sem, add_none]
theorem fld_34_6 (n o : Nat) (w : World) : (Instr.fieldAt 34 (.pointer (some ⟨n, o, none⟩)) 6).run Tryz.prog w = .ok (.pointer (some ⟨n, o + 6, none⟩)) w := by
  simp [Instr.fieldAt, go_sem, add_none]
theorem fld_34_7 (n o : Nat) (w : World) : (Instr.fieldAt 34 (.pointer (some ⟨n, o, none⟩)) 7).run Tryz.prog w = .ok (.pointer (some ⟨n, o + 7, none⟩)) w := by
  simp [Instr.fieldAt, go_sem, add_none]
theorem fld_34_8 (n o : Nat) (w : World) : (Instr.fieldAt 34 (.pointer (some ⟨n, o, none⟩)) 8).run Tryz.prog w = .ok (.pointer (some ⟨n, o + 8, none⟩)) w := by
  simp [Instr.fieldAt, go_sem, add_none]
theorem fld_34_9 (n o : Nat) (w : World) : (Instr.fieldAt 34 (.pointer (some ⟨n, o, none⟩)) 9).run Tryz.prog w = .ok (.pointer (some ⟨n, o + 9, none⟩)) w := by
  simp [Instr.fieldAt, go_sem, add_none]
theorem fld_34_10 (n o : Nat) (w : World) : (Instr.fieldAt 34 (.pointer (some ⟨n, o, none⟩)) 10).run Tryz.prog w = .ok (.pointer (some ⟨n, o + 10, none⟩)) w := by
  simp [Instr.fieldAt, go_sem, add_none]
theorem fld_34 : ∀ (k off : Nat), ([some 0, some 1, some 2, some 3, some 4, some 5, some 6, some 7, some 8, some 9, some 10] : List (Option Nat))[k]? = some (some off) → ∀ (n o : Nat) (w : World), (Instr.fieldAt 34 (.pointer (some ⟨n, o, none⟩)) k).run Tryz.prog w = .ok (.pointer (some ⟨n, o + off, none⟩)) w
  | 0, _, h => by simp at h; subst h; exact fld_34_0
  | 1, _, h => by simp at h; subst h; exact fld_34_1
  | 2, _, h => by simp at h; subst h; exact fld_34_2
  | 3, _, h => by simp at h; subst h; exact fld_34_3
  | 4, _, h => by simp at h; subst h; exact fld_34_4
  | 5, _, h => by simp at h; subst h; exact fld_34_5
  | 6, _, h => by simp at h; subst h; exact fld_34_6
  | 7, _, h => by simp at h; subst h; exact fld_34_7
  | 8, _, h => by simp at h; subst h; exact fld_34_8
  | 9, _, h => by simp at h; subst h; exact fld_34_9
  | 10, _, h => by simp at h; subst h; exact fld_34_10
  | k + 11, _, h => by simp at h
theorem fld_35_0 (n o : Nat) (w : World) : (Instr.fieldAt 35 (.pointer (some ⟨n, o, none⟩)) 0).run Tryz.prog w = .ok (.pointer (some ⟨n, o + 0, none⟩)) w := by
  simp [Instr.fieldAt, go_sem, add_none]
theorem fld_35_1 (n o : Nat) (w : World) : (Instr.fieldAt 35 (.pointer (some ⟨n, o, none⟩)) 1).run Tryz.prog w = .ok (.pointer (some ⟨n, o + 1, none⟩)) w := by
  simp [Instr.fieldAt, go_sem, add_none]
theorem fld_35_2 (n o : Nat) (w : World) : (Instr.fieldAt 35 (.pointer (some ⟨n, o, none⟩)) 2).run Tryz.prog w = .ok (.pointer (some ⟨n, o + 2, none⟩)) w := by
  simp [Instr.fieldAt, go_sem, add_none]
theorem fld_35_3 (n o : Nat) (w : World) : (Instr.fieldAt 35 (.pointer (some ⟨n, o, none⟩)) 3).run Tryz.prog w = .ok (.pointer (some ⟨n, o + 3, none⟩)) w := by
  simp [Instr.fieldAt, go_sem, add_none]
theorem fld_35_4 (n o : Nat) (w : World) : (Instr.fieldAt 35 (.pointer (some ⟨n, o, none⟩)) 4).run Tryz.prog w = .ok (.pointer (some ⟨n, o + 4, none⟩)) w := by
  simp [Instr.fieldAt, go_sem, add_none]
theorem fld_35_5 (n o : Nat) (w : World) : (Instr.fieldAt 35 (.pointer (some ⟨n, o, none⟩)) 5).run Tryz.prog w = .ok (.pointer (some ⟨n, o + 5, none⟩)) w := by
  simp [Instr.fieldAt, go_sem, add_none]
theorem fld_35_6 (n o : Nat) (w : World) : (Instr.fieldAt 35 (.pointer (some ⟨n, o, none⟩)) 6).run Tryz.prog w = .ok (.pointer (some ⟨n, o + 6, none⟩)) w := by
  simp [Instr.fieldAt, go_sem, add_none]
theorem fld_35_7 (n o : Nat) (w : World) : (Instr.fieldAt 35 (.pointer (some ⟨n, o, none⟩)) 7).run Tryz.prog w = .ok (.pointer (some ⟨n, o + 7, none⟩)) w := by
  simp [Instr.fieldAt, go_sem, add_none]
theorem fld_35_8 (n o : Nat) (w : World) : (Instr.fieldAt 35 (.pointer (some ⟨n, o, none⟩)) 8).run Tryz.prog w = .ok (.pointer (some ⟨n, o + 8, none⟩)) w := by
  simp [Instr.fieldAt, go_sem, add_none]
theorem fld_35_9 (n o : Nat) (w : World) : (Instr.fieldAt 35 (.pointer (some ⟨n, o, none⟩)) 9).run Tryz.prog w = .ok (.pointer (some ⟨n, o + 9, none⟩)) w := by
  simp [Instr.fieldAt, go_sem, add_none]
theorem fld_35_10 (n o : Nat) (w : World) : (Instr.fieldAt 35 (.pointer (some ⟨n, o, none⟩)) 10).run Tryz.prog w = .ok (.pointer (some ⟨n, o + 10, none⟩)) w := by
  simp [Instr.fieldAt, go_sem, add_none]
theorem fld_35 : ∀ (k off : Nat), ([some 0, some 1, some 2, some 3, some 4, some 5, some 6, some 7, some 8, some 9, some 10] : List (Option Nat))[k]? = some (some off) → ∀ (n o : Nat) (w : World), (Instr.fieldAt 35 (.pointer (some ⟨n, o, none⟩)) k).run Tryz.prog w = .ok (.pointer (some ⟨n, o + off, none⟩)) w
  | 0, _, h => by simp at h; subst h; exact fld_35_0
  | 1, _, h => by simp at h; subst h; exact fld_35_1
  | 2, _, h => by simp at h; subst h; exact fld_35_2
  | 3, _, h => by simp at h; subst h; exact fld_35_3
  | 4, _, h => by simp at h; subst h; exact fld_35_4
  | 5, _, h => by simp at h; subst h; exact fld_35_5
  | 6, _, h => by simp at h; subst h; exact fld_35_6
  | 7, _, h => by simp at h; subst h; exact fld_35_7
  | 8, _, h => by simp at h; subst h; exact fld_35_8
  | 9, _, h => by simp at h; subst h; exact fld_35_9
  | 10, _, h => by simp at h; subst h; exact fld_35_10
  | k + 11, _, h => by simp at h
theorem fld_36_0 (n o : Nat) (w : World) : (Instr.fieldAt 36 (.pointer (some ⟨n, o, none⟩)) 0).run Tryz.prog w = .ok (.pointer (some ⟨n, o + 0, none⟩)) w := by
  simp [Instr.fieldAt, go_sem, add_none]
theorem fld_36_1 (n o : Nat) (w : World) : (Instr.fieldAt 36 (.pointer (some ⟨n, o, none⟩)) 1).run Tryz.prog w = .ok (.pointer (some ⟨n, o + 1, none⟩)) w := by
  simp [Instr.fieldAt, go_sem, add_none]
theorem fld_36_2 (n o : Nat) (w : World) : (Instr.fieldAt 36 (.pointer (some ⟨n, o, none⟩)) 2).run Tryz.prog w = .ok (.pointer (some ⟨n, o + 2, none⟩)) w := by
  simp [Instr.fieldAt, go_sem, add_none]
theorem fld_36_3 (n o : Nat) (w : World) : (Instr.fieldAt 36 (.pointer (some ⟨n, o, none⟩)) 3).run Tryz.prog w = .ok (.pointer (some ⟨n, o + 3, none⟩)) w := by
  simp [Instr.fieldAt, go_sem, add_none]
theorem fld_36_4 (n o : Nat) (w : World) : (Instr.fieldAt 36 (.pointer (some ⟨n, o, none⟩)) 4).run Tryz.prog w = .ok (.pointer (some ⟨n, o + 4, none⟩)) w := by
  simp [Instr.fieldAt, go_sem, add_none]
theorem fld_36_5 (n o : Nat) (w : World) : (Instr.fieldAt 36 (.pointer (some ⟨n, o, none⟩)) 5).run Tryz.prog w = .ok (.pointer (some ⟨n, o + 5, none⟩)) w := by
  simp [Instr.fieldAt, go_sem, add_none]
theorem fld_36 : ∀ (k off : Nat), ([some 0, some 1, some 2, some 3, some 4, some 5] : List (Option Nat))[k]? = some (some off) → ∀ (n o : Nat) (w : World), (Instr.fieldAt 36 (.pointer (some ⟨n, o, none⟩)) k).run Tryz.prog w = .ok (.pointer (some ⟨n, o + off, none⟩)) w
  | 0, _, h => by simp at h; subst h; exact fld_36_0
  | 1, _, h => by simp at h; subst h; exact fld_36_1
  | 2, _, h => by simp at h; subst h; exact fld_36_2
  | 3, _, h => by simp at h; subst h; exact fld_36_3
  | 4, _, h => by simp at h; subst h; exact fld_36_4
  | 5, _, h => by simp at h; subst h; exact fld_36_5
  | k + 6, _, h => by simp at h
theorem fld_37_0 (n o : Nat) (w : World) : (Instr.fieldAt 37 (.pointer (some ⟨n, o, none⟩)) 0).run Tryz.prog w = .ok (.pointer (some ⟨n, o + 0, none⟩)) w := by
  simp [Instr.fieldAt, go_sem, add_none]
theorem fld_37_1 (n o : Nat) (w : World) : (Instr.fieldAt 37 (.pointer (some ⟨n, o, none⟩)) 1).run Tryz.prog w = .ok (.pointer (some ⟨n, o + 1, none⟩)) w := by
  simp [Instr.fieldAt, go_sem, add_none]
theorem fld_37_2 (n o : Nat) (w : World) : (Instr.fieldAt 37 (.pointer (some ⟨n, o, none⟩)) 2).run Tryz.prog w = .ok (.pointer (some ⟨n, o + 2, none⟩)) w := by
  simp [Instr.fieldAt, go_sem, add_none]
theorem fld_37_3 (n o : Nat) (w : World) : (Instr.fieldAt 37 (.pointer (some ⟨n, o, none⟩)) 3).run Tryz.prog w = .ok (.pointer (some ⟨n, o + 3, none⟩)) w := by
  simp [Instr.fieldAt, go_sem, add_none]
theorem fld_37_4 (n o : Nat) (w : World) : (Instr.fieldAt 37 (.pointer (some ⟨n, o, none⟩)) 4).run Tryz.prog w = .ok (.pointer (some ⟨n, o + 4, none⟩)) w := by
  simp [Instr.fieldAt, go_sem, add_none]
theorem fld_37_5 (n o : Nat) (w : World) : (Instr.fieldAt 37 (.pointer (some ⟨n, o, none⟩)) 5).run Tryz.prog w = .ok (.pointer (some ⟨n, o + 5, none⟩)) w := by
  simp [Instr.fieldAt, go_sem, add_none]
theorem fld_37 : ∀ (k off : Nat), ([some 0, some 1, some 2, some 3, some 4, some 5] : List (Option Nat))[k]? = some (some off) → ∀ (n o : Nat) (w : World), (Instr.fieldAt 37 (.pointer (some ⟨n, o, none⟩)) k).run Tryz.prog w = .ok (.pointer (some ⟨n, o + off, none⟩)) w
  | 0, _, h => by simp at h; subst h; exact fld_37_0
  | 1, _, h => by simp at h; subst h; exact fld_37_1
  | 2, _, h => by simp at h; subst h; exact fld_37_2
  | 3, _, h => by simp at h; subst h; exact fld_37_3
  | 4, _, h => by simp at h; subst h; exact fld_37_4
  | 5, _, h => by simp at h; subst h; exact fld_37_5
  | k + 6, _, h => by simp at h
theorem fld_58_0 (n o : Nat) (w : World) : (Instr.fieldAt 58 (.pointer (some ⟨n, o, none⟩)) 0).run Tryz.prog w = .ok (.pointer (some ⟨n, o + 0, none⟩)) w := by
  simp [Instr.fieldAt, go_sem, add_none]
theorem fld_58_1 (n o : Nat) (w : World) : (Instr.fieldAt 58 (.pointer (some ⟨n, o, none⟩)) 1).run Tryz.prog w = .ok (.pointer (some ⟨n, o + 1, none⟩)) w := by
  simp [Instr.fieldAt, go_sem, add_none]
theorem fld_58_2 (n o : Nat) (w : World) : (Instr.fieldAt 58 (.pointer (some ⟨n, o, none⟩)) 2).run Tryz.prog w = .ok (.pointer (some ⟨n, o + 2, none⟩)) w := by
  simp [Instr.fieldAt, go_sem, add_none]
theorem fld_58_3 (n o : Nat) (w : World) : (Instr.fieldAt 58 (.pointer (some ⟨n, o, none⟩)) 3).run Tryz.prog w = .ok (.pointer (some ⟨n, o + 3, none⟩)) w := by
  simp [Instr.fieldAt, go_sem, add_none]
theorem fld_58_4 (n o : Nat) (w : World) : (Instr.fieldAt 58 (.pointer (some ⟨n, o, none⟩)) 4).run Tryz.prog w = .ok (.pointer (some ⟨n, o + 4, none⟩)) w := by
  simp [Instr.fieldAt, go_sem, add_none]
theorem fld_58_5 (n o : Nat) (w : World) : (Instr.fieldAt 58 (.pointer (some ⟨n, o, none⟩)) 5).run Tryz.prog w = .ok (.pointer (some ⟨n, o + 5, none⟩)) w := by
  simp [Instr.fieldAt, go_sem, add_none]
theorem fld_58_6 (n o : Nat) (w : World) : (Instr.fieldAt 58 (.pointer (some ⟨n, o, none⟩)) 6).run Tryz.prog w = .ok (.pointer (some ⟨n, o + 6, none⟩)) w := by
  simp [Instr.fieldAt, go_sem, add_none]
theorem fld_58 : ∀ (k off : Nat), ([some 0, some 1, some 2, some 3, some 4, some 5, some 6] : List (Option Nat))[k]? = some (some off) → ∀ (n o : Nat) (w : World), (Instr.fieldAt 58 (.pointer (some ⟨n, o, none⟩)) k).run Tryz.prog w = .ok (.pointer (some ⟨n, o + off, none⟩)) w
  | 0, _, h => by simp at h; subst h; exact fld_58_0
  | 1, _, h => by simp at h; subst h; exact fld_58_1
  | 2, _, h => by simp at h; subst h; exact fld_58_2
  | 3, _, h => by simp at h; subst h; exact fld_58_3
  | 4, _, h => by simp at h; subst h; exact fld_58_4
  | 5, _, h => by simp at h; subst h; exact fld_58_5
  | 6, _, h => by simp at h; subst h; exact fld_58_6
  | k + 7, _, h => by simp at h
theorem fld_59_0 (n o : Nat) (w : World) : (Instr.fieldAt 59 (.pointer (some ⟨n, o, none⟩)) 0).run Tryz.prog w = .ok (.pointer (some ⟨n, o + 0, none⟩)) w := by
  simp [Instr.fieldAt, go_sem, add_none]
theorem fld_59_1 (n o : Nat) (w : World) : (Instr.fieldAt 59 (.pointer (some ⟨n, o, none⟩)) 1).run Tryz.prog w = .ok (.pointer (some ⟨n, o + 1, none⟩)) w := by
  simp [Instr.fieldAt, go_sem, add_none]
theorem fld_59_2 (n o : Nat) (w : World) : (Instr.fieldAt 59 (.pointer (some ⟨n, o, none⟩)) 2).run Tryz.prog w = .ok (.pointer (some ⟨n, o + 2, none⟩)) w := by
  simp [Instr.fieldAt, go_sem, add_none]
theorem fld_59_3 (n o : Nat) (w : World) : (Instr.fieldAt 59 (.pointer (some ⟨n, o, none⟩)) 3).run Tryz.prog w = .ok (.pointer (some ⟨n, o + 3, none⟩)) w := by
  simp [Instr.fieldAt, go_sem, add_none]
theorem fld_59_4 (n o : Nat) (w : World) : (Instr.fieldAt 59 (.pointer (some ⟨n, o, none⟩)) 4).run Tryz.prog w = .ok (.pointer (some ⟨n, o + 4, none⟩)) w := by
  simp [Instr.fieldAt, go_sem, add_none]
theorem fld_59_5 (n o : Nat) (w : World) : (Instr.fieldAt 59 (.pointer (some ⟨n, o, none⟩)) 5).run Tryz.prog w = .ok (.pointer (some ⟨n, o + 5, none⟩)) w := by
  simp [Instr.fieldAt, go_sem, add_none]
theorem fld_59_6 (n o : Nat) (w : World) : (Instr.fieldAt 59 (.pointer (some ⟨n, o, none⟩)) 6).run Tryz.prog w = .ok (.pointer (some ⟨n, o + 6, none⟩)) w := by
  simp [Instr.fieldAt, go_sem, add_none]
theorem fld_59 : ∀ (k off : Nat), ([some 0, some 1, some 2, some 3, some 4, some 5, some 6] : List (Option Nat))[k]? = some (some off) → ∀ (n o : Nat) (w : World), (Instr.fieldAt 59 (.pointer (some ⟨n, o, none⟩)) k).run Tryz.prog w = .ok (.pointer (some ⟨n, o + off, none⟩)) w
  | 0, _, h => by simp at h; subst h; exact fld_59_0
  | 1, _, h => by simp at h; subst h; exact fld_59_1
  | 2, _, h => by simp at h; subst h; exact fld_59_2
  | 3, _, h => by simp at h; subst h; exact fld_59_3
  | 4, _, h => by simp at h; subst h; exact fld_59_4
  | 5, _, h => by simp at h; subst h; exact fld_59_5
  | 6, _, h => by simp at h; subst h; exact fld_59_6
  | k + 7, _, h => by simp at h
theorem fld_63_0 (n o : Nat) (w : World) : (Instr.fieldAt 63 (.pointer (some ⟨n, o, none⟩)) 0).run Tryz.prog w = .ok (.pointer (some ⟨n, o + 0, none⟩)) w := by
  simp [Instr.fieldAt, go_sem, add_none]
theorem fld_63_1 (n o : Nat) (w : World) : (Instr.fieldAt 63 (.pointer (some ⟨n, o, none⟩)) 1).run Tryz.prog w = .ok (.pointer (some ⟨n, o + 1, none⟩)) w := by
  simp [Instr.fieldAt, go_sem, add_none]
theorem fld_63 : ∀ (k off : Nat), ([some 0, some 1] : List (Option Nat))[k]? = some (some off) → ∀ (n o : Nat) (w : World), (Instr.fieldAt 63 (.pointer (some ⟨n, o, none⟩)) k).run Tryz.prog w = .ok (.pointer (some ⟨n, o + off, none⟩)) w
  | 0, _, h => by simp at h; subst h; exact fld_63_0
  | 1, _, h => by simp at h; subst h; exact fld_63_1
  | k + 2, _, h => by simp at h
theorem fld_64_0 (n o : Nat) (w : World) : (Instr.fieldAt 64 (.pointer (some ⟨n, o, none⟩)) 0).run Tryz.prog w = .ok (.pointer (some ⟨n, o + 0, none⟩)) w := by
  simp [Instr.fieldAt, go_sem, add_none]
theorem fld_64_1 (n o : Nat) (w : World) : (Instr.fieldAt 64 (.pointer (some ⟨n, o, none⟩)) 1).run Tryz.prog w = .ok (.pointer (some ⟨n, o + 1, none⟩)) w := by
  simp [Instr.fieldAt, go_sem, add_none]
theorem fld_64 : ∀ (k off : Nat), ([some 0, some 1] : List (Option Nat))[k]? = some (some off) → ∀ (n o : Nat) (w : World), (Instr.fieldAt 64 (.pointer (some ⟨n, o, none⟩)) k).run Tryz.prog w = .ok (.pointer (some ⟨n, o + off, none⟩)) w
  | 0, _, h => by simp at h; subst h; exact fld_64_0
  | 1, _, h => by simp at h; subst h; exact fld_64_1
  | k + 2, _, h => by simp at h
theorem fld_65_0 (n o : Nat) (w : World) : (Instr.fieldAt 65 (.pointer (some ⟨n, o, none⟩)) 0).run Tryz.prog w = .ok (.pointer (some ⟨n, o + 0, none⟩)) w := by
  simp [Instr.fieldAt, go_sem, add_none]
theorem fld_65_1 (n o : Nat) (w : World) : (Instr.fieldAt 65 (.pointer (some ⟨n, o, none⟩)) 1).run Tryz.prog w = .ok (.pointer (some ⟨n, o + 2, none⟩)) w := by
  simp [Instr.fieldAt, go_sem, add_none]
theorem fld_65 : ∀ (k off : Nat), ([some 0, some 2] : List (Option Nat))[k]? = some (some off) → ∀ (n o : Nat) (w : World), (Instr.fieldAt 65 (.pointer (some ⟨n, o, none⟩)) k).run Tryz.prog w = .ok (.pointer (some ⟨n, o + off, none⟩)) w
  | 0, _, h => by simp at h; subst h; exact fld_65_0
  | 1, _, h => by simp at h; subst h; exact fld_65_1
  | k + 2, _, h => by simp at h
theorem fld_66_0 (n o : Nat) (w : World) : (Instr.fieldAt 66 (.pointer (some ⟨n, o, none⟩)) 0).run Tryz.prog w = .ok (.pointer (some ⟨n, o + 0, none⟩)) w := by
  simp [Instr.fieldAt, go_sem, add_none]
theorem fld_66_1 (n o : Nat) (w : World) : (Instr.fieldAt 66 (.pointer (some ⟨n, o, none⟩)) 1).run Tryz.prog w = .ok (.pointer (some ⟨n, o + 2, none⟩)) w := by
  simp [Instr.fieldAt, go_sem, add_none]
theorem fld_66 : ∀ (k off : Nat), ([some 0, some 2] : List (Option Nat))[k]? = some (some off) → ∀ (n o : Nat) (w : World), (Instr.fieldAt 66 (.pointer (some ⟨n, o, none⟩)) k).run Tryz.prog w = .ok (.pointer (some ⟨n, o + off, none⟩)) w
  | 0, _, h => by simp at h; subst h; exact fld_66_0
  | 1, _, h => by simp at h; subst h; exact fld_66_1
  | k + 2, _, h => by simp at h
theorem fld_68_0 (n o : Nat) (w : World) : (Instr.fieldAt 68 (.pointer (some ⟨n, o, none⟩)) 0).run Tryz.prog w = .ok (.pointer (some ⟨n, o + 0, none⟩)) w := by
  simp [Instr.fieldAt, go_sem, add_none]
theorem fld_68_1 (n o : Nat) (w : World) : (Instr.fieldAt 68 (.pointer (some ⟨n, o, none⟩)) 1).run Tryz.prog w = .ok (.pointer (some ⟨n, o + 1, none⟩)) w := by
  simp [Instr.fieldAt, go_sem, add_none]
theorem fld_68_2 (n o : Nat) (w : World) : (Instr.fieldAt 68 (.pointer (some ⟨n, o, none⟩)) 2).run Tryz.prog w = .ok (.pointer (some ⟨n, o + 2, none⟩)) w := by
  simp [Instr.fieldAt, go_sem, add_none]
theorem fld_68_3 (n o : Nat) (w : World) : (Instr.fieldAt 68 (.pointer (some ⟨n, o, none⟩)) 3).run Tryz.prog w = .ok (.pointer (some ⟨n, o + 3, none⟩)) w := by
  simp [Instr.fieldAt, go_sem, add_none]
theorem fld_68 : ∀ (k off : Nat), ([some 0, some 1, some 2, some 3] : List (Option Nat))[k]? = some (some off) → ∀ (n o : Nat) (w : World), (Instr.fieldAt 68 (.pointer (some ⟨n, o, none⟩)) k).run Tryz.prog w = .ok (.pointer (some ⟨n, o + off, none⟩)) w
  | 0, _, h => by simp at h; subst h; exact fld_68_0
  | 1, _, h => by simp at h; subst h; exact fld_68_1
  | 2, _, h => by simp at h; subst h; exact fld_68_2
  | 3, _, h => by simp at h; subst h; exact fld_68_3
  | k + 4, _, h => by simp at h
theorem fld_69_0 (n o : Nat) (w : World) : (Instr.fieldAt 69 (.pointer (some ⟨n, o, none⟩)) 0).run Tryz.prog w = .ok (.pointer (some ⟨n, o + 0, none⟩)) w := by
  simp [Instr.fieldAt, go_sem, add_none]
theorem fld_69_1 (n o : Nat) (w : World) : (Instr.fieldAt 69 (.pointer (some ⟨n, o, none⟩)) 1).run Tryz.prog w = .ok (.pointer (some ⟨n, o + 1, none⟩)) w := by
  simp [Instr.fieldAt, go_sem, add_none]
theorem fld_69_2 (n o : Nat) (w : World) : (Instr.fieldAt 69 (.pointer (some ⟨n, o, none⟩)) 2).run Tryz.prog w = .ok (.pointer (some ⟨n, o + 2, none⟩)) w := by
  simp [Instr.fieldAt, go_sem, add_none]
theorem fld_69_3 (n o : Nat) (w : World) : (Instr.fieldAt 69 (.pointer (some ⟨n, o, none⟩)) 3).run Tryz.prog w = .ok (.pointer (some ⟨n, o + 3, none⟩)) w := by
  simp [Instr.fieldAt, go_sem, add_none]
theorem fld_69 : ∀ (k off : Nat), ([some 0, some 1, some 2, some 3] : List (Option Nat))[k]? = some (some off) → ∀ (n o : Nat) (w : World), (Instr.fieldAt 69 (.pointer (some ⟨n, o, none⟩)) k).run Tryz.prog w = .ok (.pointer (some ⟨n, o + off, none⟩)) w
  | 0, _, h => by simp at h; subst h; exact fld_69_0
  | 1, _, h => by simp at h; subst h; exact fld_69_1
  | 2, _, h => by simp at h; subst h; exact fld_69_2
  | 3, _, h => by simp at h; subst h; exact fld_69_3
  | k + 4, _, h => by simp at h
theorem fld_94_0 (n o : Nat) (w : World) : (Instr.fieldAt 94 (.pointer (some ⟨n, o, none⟩)) 0).run Tryz.prog w = .ok (.pointer (some ⟨n, o + 0, none⟩)) w := by
  simp [Instr.fieldAt, go_sem, add_none]
theorem fld_94_1 (n o : Nat) (w : World) : (Instr.fieldAt 94 (.pointer (some ⟨n, o, none⟩)) 1).run Tryz.prog w = .ok (.pointer (some ⟨n, o + 1, none⟩)) w := by
  simp [Instr.fieldAt, go_sem, add_none]
theorem fld_94 : ∀ (k off : Nat), ([some 0, some 1] : List (Option Nat))[k]? = some (some off) → ∀ (n o : Nat) (w : World), (Instr.fieldAt 94 (.pointer (some ⟨n, o, none⟩)) k).run Tryz.prog w = .ok (.pointer (some ⟨n, o + off, none⟩)) w
  | 0, _, h => by simp at h; subst h; exact fld_94_0
  | 1, _, h => by simp at h; subst h; exact fld_94_1
  | k + 2, _, h => by simp at h
theorem fld_95_0 (n o : Nat) (w : World) : (Instr.fieldAt 95 (.pointer (some ⟨n, o, none⟩)) 0).run Tryz.prog w = .ok (.pointer (some ⟨n, o + 0, none⟩)) w := by
  simp [Instr.fieldAt, go_sem, add_none]
theorem fld_95_1 (n o : Nat) (w : World) : (Instr.fieldAt 95 (.pointer (some ⟨n, o, none⟩)) 1).run Tryz.prog w = .ok (.pointer (some ⟨n, o + 1, none⟩)) w := by
  simp [Instr.fieldAt, go_sem, add_none]
theorem fld_95 : ∀ (k off : Nat), ([some 0, some 1] : List (Option Nat))[k]? = some (some off) → ∀ (n o : Nat) (w : World), (Instr.fieldAt 95 (.pointer (some ⟨n, o, none⟩)) k).run Tryz.prog w = .ok (.pointer (some ⟨n, o + off, none⟩)) w
  | 0, _, h => by simp at h; subst h; exact fld_95_0
  | 1, _, h => by simp at h; subst h; exact fld_95_1
  | k + 2, _, h => by simp at h
theorem fld_96_0 (n o : Nat) (w : World) : (Instr.fieldAt 96 (.pointer (some ⟨n, o, none⟩)) 0).run Tryz.prog w = .ok (.pointer (some ⟨n, o + 0, none⟩)) w := by
  simp [Instr.fieldAt, go_sem, add_none]
theorem fld_96_1 (n o : Nat) (w : World) : (Instr.fieldAt 96 (.pointer (some ⟨n, o, none⟩)) 1).run Tryz.prog w = .ok (.pointer (some ⟨n, o + 2, none⟩)) w := by
  simp [Instr.fieldAt, go_sem, add_none]
theorem fld_96_2 (n o : Nat) (w : World) : (Instr.fieldAt 96 (.pointer (some ⟨n, o, none⟩)) 2).run Tryz.prog w = .ok (.pointer (some ⟨n, o + 3, none⟩)) w := by
  simp [Instr.fieldAt, go_sem, add_none]
theorem fld_96 : ∀ (k off : Nat), ([some 0, some 2, some 3] : List (Option Nat))[k]? = some (some off) → ∀ (n o : Nat) (w : World), (Instr.fieldAt 96 (.pointer (some ⟨n, o, none⟩)) k).run Tryz.prog w = .ok (.pointer (some ⟨n, o + off, none⟩)) w
  | 0, _, h => by simp at h; subst h; exact fld_96_0
  | 1, _, h => by simp at h; subst h; exact fld_96_1
  | 2, _, h => by simp at h; subst h; exact fld_96_2
  | k + 3, _, h => by simp at h
theorem fld_97_0 (n o : Nat) (w : World) : (Instr.fieldAt 97 (.pointer (some ⟨n, o, none⟩)) 0).run Tryz.prog w = .ok (.pointer (some ⟨n, o + 0, none⟩)) w := by
  simp [Instr.fieldAt, go_sem, add_none]
theorem fld_97_1 (n o : Nat) (w : World) : (Instr.fieldAt 97 (.pointer (some ⟨n, o, none⟩)) 1).run Tryz.prog w = .ok (.pointer (some ⟨n, o + 2, none⟩)) w := by
  simp [Instr.fieldAt, go_sem, add_none]
theorem fld_97_2 (n o : Nat) (w : World) : (Instr.fieldAt 97 (.pointer (some ⟨n, o, none⟩)) 2).run Tryz.prog w = .ok (.pointer (some ⟨n, o + 3, none⟩)) w := by
  simp [Instr.fieldAt, go_sem, add_none]
theorem fld_97 : ∀ (k off : Nat), ([some 0, some 2, some 3] : List (Option Nat))[k]? = some (some off) → ∀ (n o : Nat) (w : World), (Instr.fieldAt 97 (.pointer (some ⟨n, o, none⟩)) k).run Tryz.prog w = .ok (.pointer (some ⟨n, o + off, none⟩)) w
  | 0, _, h => by simp at h; subst h; exact fld_97_0
  | 1, _, h => by simp at h; subst h; exact fld_97_1
  | 2, _, h => by simp at h; subst h; exact fld_97_2
  | k + 3, _, h => by simp at h
theorem fld_124_0 (n o : Nat) (w : World) : (Instr.fieldAt 124 (.pointer (some ⟨n, o, none⟩)) 0).run Tryz.prog w = .ok (.pointer (some ⟨n, o + 0, none⟩)) w := by
  simp [Instr.fieldAt, go_sem, add_none]
theorem fld_124 : ∀ (k off : Nat), ([some 0] : List (Option Nat))[k]? = some (some off) → ∀ (n o : Nat) (w : World), (Instr.fieldAt 124 (.pointer (some ⟨n, o, none⟩)) k).run Tryz.prog w = .ok (.pointer (some ⟨n, o + off, none⟩)) w
  | 0, _, h => by simp at h; subst h; exact fld_124_0
  | k + 1, _, h => by simp at h
theorem fld_125_0 (n o : Nat) (w : World) : (Instr.fieldAt 125 (.pointer (some ⟨n, o, none⟩)) 0).run Tryz.prog w = .ok (.pointer (some ⟨n, o + 0, none⟩)) w := by
  simp [Instr.fieldAt, go_sem, add_none]
theorem fld_125 : ∀ (k off : Nat), ([some 0] : List (Option Nat))[k]? = some (some off) → ∀ (n o : Nat) (w : World), (Instr.fieldAt 125 (.pointer (some ⟨n, o, none⟩)) k).run Tryz.prog w = .ok (.pointer (some ⟨n, o + off, none⟩)) w
  | 0, _, h => by simp at h; subst h; exact fld_125_0
  | k + 1, _, h => by simp at h
theorem fld_127_0 (n o : Nat) (w : World) : (Instr.fieldAt 127 (.pointer (some ⟨n, o, none⟩)) 0).run Tryz.prog w = .ok (.pointer (some ⟨n, o + 0, none⟩)) w := by
  simp [Instr.fieldAt, go_sem, add_none]
theorem fld_127_1 (n o : Nat) (w : World) : (Instr.fieldAt 127 (.pointer (some ⟨n, o, none⟩)) 1).run Tryz.prog w = .ok (.pointer (some ⟨n, o + 1, none⟩)) w := by
  simp [Instr.fieldAt, go_sem, add_none]
theorem fld_127 : ∀ (k off : Nat), ([some 0, some 1] : List (Option Nat))[k]? = some (some off) → ∀ (n o : Nat) (w : World), (Instr.fieldAt 127 (.pointer (some ⟨n, o, none⟩)) k).run Tryz.prog w = .ok (.pointer (some ⟨n, o + off, none⟩)) w
  | 0, _, h => by simp at h; subst h; exact fld_127_0
  | 1, _, h => by simp at h; subst h; exact fld_127_1
  | k + 2, _, h => by simp at h
theorem fld_128_0 (n o : Nat) (w : World) : (Instr.fieldAt 128 (.pointer (some ⟨n, o, none⟩)) 0).run Tryz.prog w = .ok (.pointer (some ⟨n, o + 0, none⟩)) w := by
  simp [Instr.fieldAt, go_sem, add_none]
theorem fld_128_1 (n o : Nat) (w : World) : (Instr.fieldAt 128 (.pointer (some ⟨n, o, none⟩)) 1).run Tryz.prog w = .ok (.pointer (some ⟨n, o + 1, none⟩)) w := by
  simp [Instr.fieldAt, go_sem, add_none]
theorem fld_128 : ∀ (k off : Nat), ([some 0, some 1] : List (Option Nat))[k]? = some (some off) → ∀ (n o : Nat) (w : World), (Instr.fieldAt 128 (.pointer (some ⟨n, o, none⟩)) k).run Tryz.prog w = .ok (.pointer (some ⟨n, o + off, none⟩)) w
  | 0, _, h => by simp at h; subst h; exact fld_128_0
  | 1, _, h => by simp at h; subst h; exact fld_128_1
  | k + 2, _, h => by simp at h
theorem fld_129_0 (n o : Nat) (w : World) : (Instr.fieldAt 129 (.pointer (some ⟨n, o, none⟩)) 0).run Tryz.prog w = .ok (.pointer (some ⟨n, o + 0, none⟩)) w := by
  simp [Instr.fieldAt, go_sem, add_none]
theorem fld_129_1 (n o : Nat) (w : World) : (Instr.fieldAt 129 (.pointer (some ⟨n, o, none⟩)) 1).run Tryz.prog w = .ok (.pointer (some ⟨n, o + 1, none⟩)) w := by
  simp [Instr.fieldAt, go_sem, add_none]
theorem fld_129 : ∀ (k off : Nat), ([some 0, some 1] : List (Option Nat))[k]? = some (some off) → ∀ (n o : Nat) (w : World), (Instr.fieldAt 129 (.pointer (some ⟨n, o, none⟩)) k).run Tryz.prog w = .ok (.pointer (some ⟨n, o + off, none⟩)) w
  | 0, _, h => by simp at h; subst h; exact fld_129_0
  | 1, _, h => by simp at h; subst h; exact fld_129_1
  | k + 2, _, h => by simp at h
theorem fld_130_0 (n o : Nat) (w : World) : (Instr.fieldAt 130 (.pointer (some ⟨n, o, none⟩)) 0).run Tryz.prog w = .ok (.pointer (some ⟨n, o + 0, none⟩)) w := by
  simp [Instr.fieldAt, go_sem, add_none]
theorem fld_130_1 (n o : Nat) (w : World) : (Instr.fieldAt 130 (.pointer (some ⟨n, o, none⟩)) 1).run Tryz.prog w = .ok (.pointer (some ⟨n, o + 1, none⟩)) w := by
  simp [Instr.fieldAt, go_sem, add_none]
theorem fld_130 : ∀ (k off : Nat), ([some 0, some 1] : List (Option Nat))[k]? = some (some off) → ∀ (n o : Nat) (w : World), (Instr.fieldAt 130 (.pointer (some ⟨n, o, none⟩)) k).run Tryz.prog w = .ok (.pointer (some ⟨n, o + off, none⟩)) w
  | 0, _, h => by simp at h; subst h; exact fld_130_0
  | 1, _, h => by simp at h; subst h; exact fld_130_1
  | k + 2, _, h => by simp at h
theorem fld_139_0 (n o : Nat) (w : World) : (Instr.fieldAt 139 (.pointer (some ⟨n, o, none⟩)) 0).run Tryz.prog w = .ok (.pointer (some ⟨n, o + 0, none⟩)) w := by
  simp [Instr.fieldAt, go_sem, add_none]
theorem fld_139_1 (n o : Nat) (w : World) : (Instr.fieldAt 139 (.pointer (some ⟨n, o, none⟩)) 1).run Tryz.prog w = .ok (.pointer (some ⟨n, o + 1, none⟩)) w := by
  simp [Instr.fieldAt, go_sem, add_none]
theorem fld_139 : ∀ (k off : Nat), ([some 0, some 1] : List (Option Nat))[k]? = some (some off) → ∀ (n o : Nat) (w : World), (Instr.fieldAt 139 (.pointer (some ⟨n, o, none⟩)) k).run Tryz.prog w = .ok (.pointer (some ⟨n, o + off, none⟩)) w
  | 0, _, h => by simp at h; subst h; exact fld_139_0
  | 1, _, h => by simp at h; subst h; exact fld_139_1
  | k + 2, _, h => by simp at h
theorem fld_140_0 (n o : Nat) (w : World) : (Instr.fieldAt 140 (.pointer (some ⟨n, o, none⟩)) 0).run Tryz.prog w = .ok (.pointer (some ⟨n, o + 0, none⟩)) w := by
  simp [Instr.fieldAt, go_sem, add_none]
theorem fld_140_1 (n o : Nat) (w : World) : (Instr.fieldAt 140 (.pointer (some ⟨n, o, none⟩)) 1).run Tryz.prog w = .ok (.pointer (some ⟨n, o + 1, none⟩)) w := by
  simp [Instr.fieldAt, go_sem, add_none]
theorem fld_140 : ∀ (k off : Nat), ([some 0, some 1] : List (Option Nat))[k]? = some (some off) → ∀ (n o : Nat) (w : World), (Instr.fieldAt 140 (.pointer (some ⟨n, o, none⟩)) k).run Tryz.prog w = .ok (.pointer (some ⟨n, o + off, none⟩)) w
  | 0, _, h => by simp at h; subst h; exact fld_140_0
  | 1, _, h => by simp at h; subst h; exact fld_140_1
  | k + 2, _, h => by simp at h
theorem fld_141_0 (n o : Nat) (w : World) : (Instr.fieldAt 141 (.pointer (some ⟨n, o, none⟩)) 0).run Tryz.prog w = .ok (.pointer (some ⟨n, o + 0, none⟩)) w := by
  simp [Instr.fieldAt, go_sem, add_none]
theorem fld_141_1 (n o : Nat) (w : World) : (Instr.fieldAt 141 (.pointer (some ⟨n, o, none⟩)) 1).run Tryz.prog w = .ok (.pointer (some ⟨n, o + 1, none⟩)) w := by
  simp [Instr.fieldAt, go_sem, add_none]
theorem fld_141 : ∀ (k off : Nat), ([some 0, some 1] : List (Option Nat))[k]? = some (some off) → ∀ (n o : Nat) (w : World), (Instr.fieldAt 141 (.pointer (some ⟨n, o, none⟩)) k).run Tryz.prog w = .ok (.pointer (some ⟨n, o + off, none⟩)) w
  | 0, _, h => by simp at h; subst h; exact fld_141_0
  | 1, _, h => by simp at h; subst h; exact fld_141_1
  | k + 2, _, h => by simp at h
theorem fld_142_0 (n o : Nat) (w : World) : (Instr.fieldAt 142 (.pointer (some ⟨n, o, none⟩)) 0).run Tryz.prog w = .ok (.pointer (some ⟨n, o + 0, none⟩)) w := by
  simp [Instr.fieldAt, go_sem, add_none]
theorem fld_142_1 (n o : Nat) (w : World) : (Instr.fieldAt 142 (.pointer (some ⟨n, o, none⟩)) 1).run Tryz.prog w = .ok (.pointer (some ⟨n, o + 1, none⟩)) w := by
  simp [Instr.fieldAt, go_sem, add_none]
theorem fld_142 : ∀ (k off : Nat), ([some 0, some 1] : List (Option Nat))[k]? = some (some off) → ∀ (n o : Nat) (w : World), (Instr.fieldAt 142 (.pointer (some ⟨n, o, none⟩)) k).run Tryz.prog w = .ok (.pointer (some ⟨n, o + off, none⟩)) w
  | 0, _, h => by simp at h; subst h; exact fld_142_0
  | 1, _, h => by simp at h; subst h; exact fld_142_1
  | k + 2, _, h => by simp at h
theorem fld_160_0 (n o : Nat) (w : World) : (Instr.fieldAt 160 (.pointer (some ⟨n, o, none⟩)) 0).run Tryz.prog w = .ok (.pointer (some ⟨n, o + 0, none⟩)) w := by
  simp [Instr.fieldAt, go_sem, add_none]
theorem fld_160_1 (n o : Nat) (w : World) : (Instr.fieldAt 160 (.pointer (some ⟨n, o, none⟩)) 1).run Tryz.prog w = .ok (.pointer (some ⟨n, o + 1, none⟩)) w := by
  simp [Instr.fieldAt, go_sem, add_none]
theorem fld_160 : ∀ (k off : Nat), ([some 0, some 1] : List (Option Nat))[k]? = some (some off) → ∀ (n o : Nat) (w : World), (Instr.fieldAt 160 (.pointer (some ⟨n, o, none⟩)) k).run Tryz.prog w = .ok (.pointer (some ⟨n, o + off, none⟩)) w
  | 0, _, h => by simp at h; subst h; exact fld_160_0
  | 1, _, h => by simp at h; subst h; exact fld_160_1
  | k + 2, _, h => by simp at h
theorem fld_161_0 (n o : Nat) (w : World) : (Instr.fieldAt 161 (.pointer (some ⟨n, o, none⟩)) 0).run Tryz.prog w = .ok (.pointer (some ⟨n, o + 0, none⟩)) w := by
  simp [Instr.fieldAt, go_sem, add_none]
theorem fld_161_1 (n o : Nat) (w : World) : (Instr.fieldAt 161 (.pointer (some ⟨n, o, none⟩)) 1).run Tryz.prog w = .ok (.pointer (some ⟨n, o + 1, none⟩)) w := by
  simp [Instr.fieldAt, go_sem, add_none]
theorem fld_161 : ∀ (k off : Nat), ([some 0, some 1] : List (Option Nat))[k]? = some (some off) → ∀ (n o : Nat) (w : World), (Instr.fieldAt 161 (.pointer (some ⟨n, o, none⟩)) k).run Tryz.prog w = .ok (.pointer (some ⟨n, o + off, none⟩)) w
  | 0, _, h => by simp at h; subst h; exact fld_161_0
  | 1, _, h => by simp at h; subst h; exact fld_161_1
  | k + 2, _, h => by simp at h
theorem fld_177_0 (n o : Nat) (w : World) : (Instr.fieldAt 177 (.pointer (some ⟨n, o, none⟩)) 0).run Tryz.prog w = .ok (.pointer (some ⟨n, o + 0, none⟩)) w := by
  simp [Instr.fieldAt, go_sem, add_none]
theorem fld_177_1 (n o : Nat) (w : World) : (Instr.fieldAt 177 (.pointer (some ⟨n, o, none⟩)) 1).run Tryz.prog w = .ok (.pointer (some ⟨n, o + 1, none⟩)) w := by
  simp [Instr.fieldAt, go_sem, add_none]
theorem fld_177_2 (n o : Nat) (w : World) : (Instr.fieldAt 177 (.pointer (some ⟨n, o, none⟩)) 2).run Tryz.prog w = .ok (.pointer (some ⟨n, o + 2, none⟩)) w := by
  simp [Instr.fieldAt, go_sem, add_none]
theorem fld_177_3 (n o : Nat) (w : World) : (Instr.fieldAt 177 (.pointer (some ⟨n, o, none⟩)) 3).run Tryz.prog w = .ok (.pointer (some ⟨n, o + 3, none⟩)) w := by
  simp [Instr.fieldAt, go_sem, add_none]
theorem fld_177_4 (n o : Nat) (w : World) : (Instr.fieldAt 177 (.pointer (some ⟨n, o, none⟩)) 4).run Tryz.prog w = .ok (.pointer (some ⟨n, o + 4, none⟩)) w := by
  simp [Instr.fieldAt, go_sem, add_none]
theorem fld_177 : ∀ (k off : Nat), ([some 0, some 1, some 2, some 3, some 4] : List (Option Nat))[k]? = some (some off) → ∀ (n o : Nat) (w : World), (Instr.fieldAt 177 (.pointer (some ⟨n, o, none⟩)) k).run Tryz.prog w = .ok (.pointer (some ⟨n, o + off, none⟩)) w
  | 0, _, h => by simp at h; subst h; exact fld_177_0
  | 1, _, h => by simp at h; subst h; exact fld_177_1
  | 2, _, h => by simp at h; subst h; exact fld_177_2
  | 3, _, h => by simp at h; subst h; exact fld_177_3
  | 4, _, h => by simp at h; subst h; exact fld_177_4
  | k + 5, _, h => by simp at h
theorem fld_178_0 (n o : Nat) (w : World) : (Instr.fieldAt 178 (.pointer (some ⟨n, o, none⟩)) 0).run Tryz.prog w = .ok (.pointer (some ⟨n, o + 0, none⟩)) w := by
  simp [Instr.fieldAt, go_sem, add_none]
theorem fld_178_1 (n o : Nat) (w : World) : (Instr.fieldAt 178 (.pointer (some ⟨n, o, none⟩)) 1).run Tryz.prog w = .ok (.pointer (some ⟨n, o + 1, none⟩)) w := by
  simp [Instr.fieldAt, go_sem, add_none]
theorem fld_178_2 (n o : Nat) (w : World) : (Instr.fieldAt 178 (.pointer (some ⟨n, o, none⟩)) 2).run Tryz.prog w = .ok (.pointer (some ⟨n, o + 2, none⟩)) w := by
  simp [Instr.fieldAt, go_sem, add_none]
theorem fld_178_3 (n o : Nat) (w : World) : (Instr.fieldAt 178 (.pointer (some ⟨n, o, none⟩)) 3).run Tryz.prog w = .ok (.pointer (some ⟨n, o + 3, none⟩)) w := by
  simp [Instr.fieldAt, go_sem, add_none]
theorem fld_178_4 (n o : Nat) (w : World) : (Instr.fieldAt 178 (.pointer (some ⟨n, o, none⟩)) 4).run Tryz.prog w = .ok (.pointer (some ⟨n, o + 4, none⟩)) w := by
  simp [Instr.fieldAt, go_sem, add_none]
theorem fld_178 : ∀ (k off : Nat), ([some 0, some 1, some 2, some 3, some 4] : List (Option Nat))[k]? = some (some off) → ∀ (n o : Nat) (w : World), (Instr.fieldAt 178 (.pointer (some ⟨n, o, none⟩)) k).run Tryz.prog w = .ok (.pointer (some ⟨n, o + off, none⟩)) w
  | 0, _, h => by simp at h; subst h; exact fld_178_0
  | 1, _, h => by simp at h; subst h; exact fld_178_1
  | 2, _, h => by simp at h; subst h; exact fld_178_2
  | 3, _, h => by simp at h; subst h; exact fld_178_3
  | 4, _, h => by simp at h; subst h; exact fld_178_4
  | k + 5, _, h => by simp at h
theorem fld_182_0 (n o : Nat) (w : World) : (Instr.fieldAt 182 (.pointer (some ⟨n, o, none⟩)) 0).run Tryz.prog w = .ok (.pointer (some ⟨n, o + 0, none⟩)) w := by
  simp [Instr.fieldAt, go_sem, add_none]
theorem fld_182_1 (n o : Nat) (w : World) : (Instr.fieldAt 182 (.pointer (some ⟨n, o, none⟩)) 1).run Tryz.prog w = .ok (.pointer (some ⟨n, o + 1, none⟩)) w := by
  simp [Instr.fieldAt, go_sem, add_none]
theorem fld_182_2 (n o : Nat) (w : World) : (Instr.fieldAt 182 (.pointer (some ⟨n, o, none⟩)) 2).run Tryz.prog w = .ok (.pointer (some ⟨n, o + 2, none⟩)) w := by
  simp [Instr.fieldAt, go_sem, add_none]
theorem fld_182_3 (n o : Nat) (w : World) : (Instr.fieldAt 182 (.pointer (some ⟨n, o, none⟩)) 3).run Tryz.prog w = .ok (.pointer (some ⟨n, o + 3, none⟩)) w := by
  simp [Instr.fieldAt, go_sem, add_none]
theorem fld_182 : ∀ (k off : Nat), ([some 0, some 1, some 2, some 3] : List (Option Nat))[k]? = some (some off) → ∀ (n o : Nat) (w : World), (Instr.fieldAt 182 (.pointer (some ⟨n, o, none⟩)) k).run Tryz.prog w = .ok (.pointer (some ⟨n, o + off, none⟩)) w
  | 0, _, h => by simp at h; subst h; exact fld_182_0
  | 1, _, h => by simp at h; subst h; exact fld_182_1
  | 2, _, h => by simp at h; subst h; exact fld_182_2
  | 3, _, h => by simp at h; subst h; exact fld_182_3
  | k + 4, _, h => by simp at h
theorem fld_183_0 (n o : Nat) (w : World) : (Instr.fieldAt 183 (.pointer (some ⟨n, o, none⟩)) 0).run Tryz.prog w = .ok (.pointer (some ⟨n, o + 0, none⟩)) w := by
  simp [Instr.fieldAt, go_sem, add_none]
theorem fld_183_1 (n o : Nat) (w : World) : (Instr.fieldAt 183 (.pointer (some ⟨n, o, none⟩)) 1).run Tryz.prog w = .ok (.pointer (some ⟨n, o + 1, none⟩)) w := by
  simp [Instr.fieldAt, go_sem, add_none]
theorem fld_183_2 (n o : Nat) (w : World) : (Instr.fieldAt 183 (.pointer (some ⟨n, o, none⟩)) 2).run Tryz.prog w = .ok (.pointer (some ⟨n, o + 2, none⟩)) w := by
  simp [Instr.fieldAt, go_sem, add_none]
theorem fld_183_3 (n o : Nat) (w : World) : (Instr.fieldAt 183 (.pointer (some ⟨n, o, none⟩)) 3).run Tryz.prog w = .ok (.pointer (some ⟨n, o + 3, none⟩)) w := by
  simp [Instr.fieldAt, go_sem, add_none]
theorem fld_183 : ∀ (k off : Nat), ([some 0, some 1, some 2, some 3] : List (Option Nat))[k]? = some (some off) → ∀ (n o : Nat) (w : World), (Instr.fieldAt 183 (.pointer (some ⟨n, o, none⟩)) k).run Tryz.prog w = .ok (.pointer (some ⟨n, o + off, none⟩)) w
  | 0, _, h => by simp at h; subst h; exact fld_183_0
  | 1, _, h => by simp at h; subst h; exact fld_183_1
  | 2, _, h => by simp at h; subst h; exact fld_183_2
  | 3, _, h => by simp at h; subst h; exact fld_183_3
  | k + 4, _, h => by simp at h
theorem fld_199_0 (n o : Nat) (w : World) : (Instr.fieldAt 199 (.pointer (some ⟨n, o, none⟩)) 0).run Tryz.prog w = .ok (.pointer (some ⟨n, o + 0, none⟩)) w := by
  simp [Instr.fieldAt, go_sem, add_none]
theorem fld_199_1 (n o : Nat) (w : World) : (Instr.fieldAt 199 (.pointer (some ⟨n, o, none⟩)) 1).run Tryz.prog w = .ok (.pointer (some ⟨n, o + 1, none⟩)) w := by
  simp [Instr.fieldAt, go_sem, add_none]
theorem fld_199_2 (n o : Nat) (w : World) : (Instr.fieldAt 199 (.pointer (some ⟨n, o, none⟩)) 2).run Tryz.prog w = .ok (.pointer (some ⟨n, o + 2, none⟩)) w := by
  simp [Instr.fieldAt, go_sem, add_none]
theorem fld_199_3 (n o : Nat) (w : World) : (Instr.fieldAt 199 (.pointer (some ⟨n, o, none⟩)) 3).run Tryz.prog w = .ok (.pointer (some ⟨n, o + 3, none⟩)) w := by
  simp [Instr.fieldAt, go_sem, add_none]
theorem fld_199 : ∀ (k off : Nat), ([some 0, some 1, some 2, some 3] : List (Option Nat))[k]? = some (some off) → ∀ (n o : Nat) (w : World), (Instr.fieldAt 199 (.pointer (some ⟨n, o, none⟩)) k).run Tryz.prog w = .ok (.pointer (some ⟨n, o + off, none⟩)) w
  | 0, _, h => by simp at h; subst h; exact fld_199_0
  | 1, _, h => by simp at h; subst h; exact fld_199_1
  | 2, _, h => by simp at h; subst h; exact fld_199_2
  | 3, _, h => by simp at h; subst h; exact fld_199_3
  | k + 4, _, h => by simp at h
theorem fld_200_0 (n o : Nat) (w : World) : (Instr.fieldAt 200 (.pointer (some ⟨n, o, none⟩)) 0).run Tryz.prog w = .ok (.pointer (some ⟨n, o + 0, none⟩)) w := by
  simp [Instr.fieldAt, go_sem, add_none]
theorem fld_200_1 (n o : Nat) (w : World) : (Instr.fieldAt 200 (.pointer (some ⟨n, o, none⟩)) 1).run Tryz.prog w = .ok (.pointer (some ⟨n, o + 1, none⟩)) w := by
  simp [Instr.fieldAt, go_sem, add_none]
theorem fld_200_2 (n o : Nat) (w : World) : (Instr.fieldAt 200 (.pointer (some ⟨n, o, none⟩)) 2).run Tryz.prog w = .ok (.pointer (some ⟨n, o + 2, none⟩)) w := by
  simp [Instr.fieldAt, go_sem, add_none]
theorem fld_200_3 (n o : Nat) (w : World) : (Instr.fieldAt 200 (.pointer (some ⟨n, o, none⟩)) 3).run Tryz.prog w = .ok (.pointer (some ⟨n, o + 3, none⟩)) w := by
  simp [Instr.fieldAt, go_sem, add_none]
theorem fld_200 : ∀ (k off : Nat), ([some 0, some 1, some 2, some 3] : List (Option Nat))[k]? = some (some off) → ∀ (n o : Nat) (w : World), (Instr.fieldAt 200 (.pointer (some ⟨n, o, none⟩)) k).run Tryz.prog w = .ok (.pointer (some ⟨n, o + off, none⟩)) w
  | 0, _, h => by simp at h; subst h; exact fld_200_0
  | 1, _, h => by simp at h; subst h; exact fld_200_1
  | 2, _, h => by simp at h; subst h; exact fld_200_2
  | 3, _, h => by simp at h; subst h; exact fld_200_3
  | k + 4, _, h => by simp at h
theorem fld_202 : ∀ (k off : Nat), ([none] : List (Option Nat))[k]? = some (some off) → ∀ (n o : Nat) (w : World), (Instr.fieldAt 202 (.pointer (some ⟨n, o, none⟩)) k).run Tryz.prog w = .ok (.pointer (some ⟨n, o + off, none⟩)) w
  | 0, _, h => by simp at h
  | k + 1, _, h => by simp at h
theorem fld_203 : ∀ (k off : Nat), ([none] : List (Option Nat))[k]? = some (some off) → ∀ (n o : Nat) (w : World), (Instr.fieldAt 203 (.pointer (some ⟨n, o, none⟩)) k).run Tryz.prog w = .ok (.pointer (some ⟨n, o + off, none⟩)) w
  | 0, _, h => by simp at h
  | k + 1, _, h => by simp at h
theorem fld_209_0 (n o : Nat) (w : World) : (Instr.fieldAt 209 (.pointer (some ⟨n, o, none⟩)) 0).run Tryz.prog w = .ok (.pointer (some ⟨n, o + 0, none⟩)) w := by
  simp [Instr.fieldAt, go_sem, add_none]
theorem fld_209_1 (n o : Nat) (w : World) : (Instr.fieldAt 209 (.pointer (some ⟨n, o, none⟩)) 1).run Tryz.prog w = .ok (.pointer (some ⟨n, o + 1, none⟩)) w := by
  simp [Instr.fieldAt, go_sem, add_none]
theorem fld_209_2 (n o : Nat) (w : World) : (Instr.fieldAt 209 (.pointer (some ⟨n, o, none⟩)) 2).run Tryz.prog w = .ok (.pointer (some ⟨n, o + 2, none⟩)) w := by
  simp [Instr.fieldAt, go_sem, add_none]
theorem fld_209_3 (n o : Nat) (w : World) : (Instr.fieldAt 209 (.pointer (some ⟨n, o, none⟩)) 3).run Tryz.prog w = .ok (.pointer (some ⟨n, o + 3, none⟩)) w := by
  simp [Instr.fieldAt, go_sem, add_none]
theorem fld_209_4 (n o : Nat) (w : World) : (Instr.fieldAt 209 (.pointer (some ⟨n, o, none⟩)) 4).run Tryz.prog w = .ok (.pointer (some ⟨n, o + 4, none⟩)) w := by
  simp [Instr.fieldAt, go_sem, add_none]
theorem fld_209_5 (n o : Nat) (w : World) : (Instr.fieldAt 209 (.pointer (some ⟨n, o, none⟩)) 5).run Tryz.prog w = .ok (.pointer (some ⟨n, o + 5, none⟩)) w := by
  simp [Instr.fieldAt, go_sem, add_none]
theorem fld_209_6 (n o : Nat) (w : World) : (Instr.fieldAt 209 (.pointer (some ⟨n, o, none⟩)) 6).run Tryz.prog w = .ok (.pointer (some ⟨n, o + 6, none⟩)) w := by
  simp [Instr.fieldAt, go_sem, add_none]
theorem fld_209_7 (n o : Nat) (w : World) : (Instr.fieldAt 209 (.pointer (some ⟨n, o, none⟩)) 7).run Tryz.prog w = .ok (.pointer (some ⟨n, o + 7, none⟩)) w := by
  simp [Instr.fieldAt, go_sem, add_none]
theorem fld_209_8 (n o : Nat) (w : World) : (Instr.fieldAt 209 (.pointer (some ⟨n, o, none⟩)) 8).run Tryz.prog w = .ok (.pointer (some ⟨n, o + 8, none⟩)) w := by
  simp [Instr.fieldAt, go_sem, add_none]
theorem fld_209_9 (n o : Nat) (w : World) : (Instr.fieldAt 209 (.pointer (some ⟨n, o, none⟩)) 9).run Tryz.prog w = .ok (.pointer (some ⟨n, o + 9, none⟩)) w := by
  simp [Instr.fieldAt, go_sem, add_none]
theorem fld_209_10 (n o : Nat) (w : World) : (Instr.fieldAt 209 (.pointer (some ⟨n, o, none⟩)) 10).run Tryz.prog w = .ok (.pointer (some ⟨n, o + 10, none⟩)) w := by
  simp [Instr.fieldAt, go_sem, add_none]
theorem fld_209 : ∀ (k off : Nat), ([some 0, some 1, some 2, some 3, some 4, some 5, some 6, some 7, some 8, some 9, some 10] : List (Option Nat))[k]? = some (some off) → ∀ (n o : Nat) (w : World), (Instr.fieldAt 209 (.pointer (some ⟨n, o, none⟩)) k).run Tryz.prog w = .ok (.pointer (some ⟨n, o + off, none⟩)) w
  | 0, _, h => by simp at h; subst h; exact fld_209_0
  | 1, _, h => by simp at h; subst h; exact fld_209_1
  | 2, _, h => by simp at h; subst h; exact fld_209_2
  | 3, _, h => by simp at h; subst h; exact fld_209_3
  | 4, _, h => by simp at h; subst h; exact fld_209_4
  | 5, _, h => by simp at h; subst h; exact fld_209_5
  | 6, _, h => by simp at h; subst h; exact fld_209_6
  | 7, _, h => by simp at h; subst h; exact fld_209_7
  | 8, _, h => by simp at h; subst h; exact fld_209_8
  | 9, _, h => by simp at h; subst h; exact fld_209_9
  | 10, _, h => by simp at h; subst h; exact fld_209_10
  | k + 11, _, h => by simp at h
theorem fld_210_0 (n o : Nat) (w : World) : (Instr.fieldAt 210 (.pointer (some ⟨n, o, none⟩)) 0).run Tryz.prog w = .ok (.pointer (some ⟨n, o + 0, none⟩)) w := by
  simp [Instr.fieldAt, go_sem, add_none]
theorem fld_210_1 (n o : Nat) (w : World) : (Instr.fieldAt 210 (.pointer (some ⟨n, o, none⟩)) 1).run Tryz.prog w = .ok (.pointer (some ⟨n, o + 1, none⟩)) w := by
  simp [Instr.fieldAt, go_sem, add_none]
theorem fld_210_2 (n o : Nat) (w : World) : (Instr.fieldAt 210 (.pointer (some ⟨n, o, none⟩)) 2).run Tryz.prog w = .ok (.pointer (some ⟨n, o + 2, none⟩)) w := by
  simp [Instr.fieldAt, go_sem, add_none]
theorem fld_210_3 (n o : Nat) (w : World) : (Instr.fieldAt 210 (.pointer (some ⟨n, o, none⟩)) 3).run Tryz.prog w = .ok (.pointer (some ⟨n, o + 3, none⟩)) w := by
  simp [Instr.fieldAt, go_sem, add_none]
theorem fld_210_4 (n o : Nat) (w : World) : (Instr.fieldAt 210 (.pointer (some ⟨n, o, none⟩)) 4).run Tryz.prog w = .ok (.pointer (some ⟨n, o + 4, none⟩)) w := by
  simp [Instr.fieldAt, go_sem, add_none]
theorem fld_210_5 (n o : Nat) (w : World) : (Instr.fieldAt 210 (.pointer (some ⟨n, o, none⟩)) 5).run Tryz.prog w = .ok (.pointer (some ⟨n, o + 5, none⟩)) w := by
  simp [Instr.fieldAt, go_sem, add_none]
theorem fld_210_6 (n o : Nat) (w : World) : (Instr.fieldAt 210 (.pointer (some ⟨n, o, none⟩)) 6).run Tryz.prog w = .ok (.pointer (some ⟨n, o + 6, none⟩)) w := by
  simp [Instr.fieldAt, go_sem, add_none]
theorem fld_210_7 (n o : Nat) (w : World) : (Instr.fieldAt 210 (.pointer (some ⟨n, o, none⟩)) 7).run Tryz.prog w = .ok (.pointer (some ⟨n, o + 7, none⟩)) w := by
  simp [Instr.fieldAt, go_sem, add_none]
theorem fld_210_8 (n o : Nat) (w : World) : (Instr.fieldAt 210 (.pointer (some ⟨n, o, none⟩)) 8).run Tryz.prog w = .ok (.pointer (some ⟨n, o + 8, none⟩)) w := by
  simp [Instr.fieldAt, go_sem, add_none]
theorem fld_210_9 (n o : Nat) (w : World) : (Instr.fieldAt 210 (.pointer (some ⟨n, o, none⟩)) 9).run Tryz.prog w = .ok (.pointer (some ⟨n, o + 9, none⟩)) w := by
  simp [Instr.fieldAt, go_sem, add_none]
theorem fld_210_10 (n o : Nat) (w : World) : (Instr.fieldAt 210 (.pointer (some ⟨n, o, none⟩)) 10).run Tryz.prog w = .ok (.pointer (some ⟨n, o + 10, none⟩)) w := by
  simp [Instr.fieldAt, go_sem, add_none]
theorem fld_210 : ∀ (k off : Nat), ([some 0, some 1, some 2, some 3, some 4, some 5, some 6, some 7, some 8, some 9, some 10] : List (Option Nat))[k]? = some (some off) → ∀ (n o : Nat) (w : World), (Instr.fieldAt 210 (.pointer (some ⟨n, o, none⟩)) k).run Tryz.prog w = .ok (.pointer (some ⟨n, o + off, none⟩)) w
  | 0, _, h => by simp at h; subst h; exact fld_210_0
  | 1, _, h => by simp at h; subst h; exact fld_210_1
  | 2, _, h => by simp at h; subst h; exact fld_210_2
  | 3, _, h => by simp at h; subst h; exact fld_210_3
  | 4, _, h => by simp at h; subst h; exact fld_210_4
  | 5, _, h => by simp at h; subst h; exact fld_210_5
  | 6, _, h => by simp at h; subst h; exact fld_210_6
  | 7, _, h => by simp at h; subst h; exact fld_210_7
  | 8, _, h => by simp at h; subst h; exact fld_210_8
  | 9, _, h => by simp at h; subst h; exact fld_210_9
  | 10, _, h => by simp at h; subst h; exact fld_210_10
  | k + 11, _, h => by simp at h
def fldL : List (Nat × List (Option Nat)) := [(7, [some 0, some 1, some 2, some 3]), (8, [some 0, some 1, some 2, some 3]), (13, [some 0, some 1]), (14, [some 0, some 1]), (18, [some 0]), (19, [some 0]), (27, [some 0, some 1, some 2, some 3, some 4, some 5, some 6, some 7, some 8]), (28, [some 0, some 1, some 2, some 3, some 4, some 5, some 6, some 7, some 8]), (29, [some 0, some 1, some 2]), (30, [some 0, some 1, some 2]), (34, [some 0, some 1, some 2, some 3, some 4, some 5, some 6, some 7, some 8, some 9, some 10]), (35, [some 0, some 1, some 2, some 3, some 4, some 5, some 6, some 7, some 8, some 9, some 10]), (36, [some 0, some 1, some 2, some 3, some 4, some 5]), (37, [some 0, some 1, some 2, some 3, some 4, some 5]), (58, [some 0, some 1, some 2, some 3, some 4, some 5, some 6]), (59, [some 0, some 1, some 2, some 3, some 4, some 5, some 6]), (63, [some 0, some 1]), (64, [some 0, some 1]), (65, [some 0, some 2]), (66, [some 0, some 2]), (68, [some 0, some 1, some 2, some 3]), (69, [some 0, some 1, some 2, some 3]), (94, [some 0, some 1]), (95, [some 0, some 1]), (96, [some 0, some 2, some 3]), (97, [some 0, some 2, some 3]), (124, [some 0]), (125, [some 0]), (127, [some 0, some 1]), (128, [some 0, some 1]), (129, [some 0, some 1]), (130, [some 0, some 1]), (139, [some 0, some 1]), (140, [some 0, some 1]), (141, [some 0, some 1]), (142, [some 0, some 1]), (160, [some 0, some 1]), (161, [some 0, some 1]), (177, [some 0, some 1, some 2, some 3, some 4]), (178, [some 0, some 1, some 2, some 3, some 4]), (182, [some 0, some 1, some 2, some 3]), (183, [some 0, some 1, some 2, some 3]), (199, [some 0, some 1, some 2, some 3]), (200, [some 0, some 1, some 2, some 3]), (202, [none]), (203, [none]), (209, [some 0, some 1, some 2, some 3, some 4, some 5, some 6, some 7, some 8, some 9, some 10]), (210, [some 0, some 1, some 2, some 3, some 4, some 5, some 6, some 7, some 8, some 9, some 10])]
set_option maxRecDepth 100000 in
theorem fldAll : ∀ x ∈ fldL, ∀ (k off : Nat), x.2[k]? = some (some off) → ∀ (n o : Nat) (w : World), (Instr.fieldAt x.1 (.pointer (some ⟨n, o, none⟩)) k).run Tryz.prog w = .ok (.pointer (some ⟨n, o + off, none⟩)) w :=
  (List.forall_mem_cons.2 ⟨fld_7, (List.forall_mem_cons.2 ⟨fld_8, (List.forall_mem_cons.2 ⟨fld_13, (List.forall_mem_cons.2 ⟨fld_14, (List.forall_mem_cons.2 ⟨fld_18, (List.forall_mem_cons.2 ⟨fld_19, (List.forall_mem_cons.2 ⟨fld_27, (List.forall_mem_cons.2 ⟨fld_28, (List.forall_mem_cons.2 ⟨fld_29, (List.forall_mem_cons.2 ⟨fld_30, (List.forall_mem_cons.2 ⟨fld_34, (List.forall_mem_cons.2 ⟨fld_35, (List.forall_mem_cons.2 ⟨fld_36, (List.forall_mem_cons.2 ⟨fld_37, (List.forall_mem_cons.2 ⟨fld_58, (List.forall_mem_cons.2 ⟨fld_59, (List.forall_mem_cons.2 ⟨fld_63, (List.forall_mem_cons.2 ⟨fld_64, (List.forall_mem_cons.2 ⟨fld_65, (List.forall_mem_cons.2 ⟨fld_66, (List.forall_mem_cons.2 ⟨fld_68, (List.forall_mem_cons.2 ⟨fld_69, (List.forall_mem_cons.2 ⟨fld_94, (List.forall_mem_cons.2 ⟨fld_95, (List.forall_mem_cons.2 ⟨fld_96, (List.forall_mem_cons.2 ⟨fld_97, (List.forall_mem_cons.2 ⟨fld_124, (List.forall_mem_cons.2 ⟨fld_125, (List.forall_mem_cons.2 ⟨fld_127, (List.forall_mem_cons.2 ⟨fld_128, (List.forall_mem_cons.2 ⟨fld_129, (List.forall_mem_cons.2 ⟨fld_130, (List.forall_mem_cons.2 ⟨fld_139, (List.forall_mem_cons.2 ⟨fld_140, (List.forall_mem_cons.2 ⟨fld_141, (List.forall_mem_cons.2 ⟨fld_142, (List.forall_mem_cons.2 ⟨fld_160, (List.forall_mem_cons.2 ⟨fld_161, (List.forall_mem_cons.2 ⟨fld_177, (List.forall_mem_cons.2 ⟨fld_178, (List.forall_mem_cons.2 ⟨fld_182, (List.forall_mem_cons.2 ⟨fld_183, (List.forall_mem_cons.2 ⟨fld_199, (List.forall_mem_cons.2 ⟨fld_200, (List.forall_mem_cons.2 ⟨fld_202, (List.forall_mem_cons.2 ⟨fld_203, (List.forall_mem_cons.2 ⟨fld_209, (List.forall_mem_cons.2 ⟨fld_210, (List.forall_mem_nil _)⟩)⟩)⟩)⟩)⟩)⟩)⟩)⟩)⟩)⟩)⟩)⟩)⟩)⟩)⟩)⟩)⟩)⟩)⟩)⟩)⟩)⟩)⟩)⟩)⟩)⟩)⟩)⟩)⟩)⟩)⟩)⟩)⟩)⟩)⟩)⟩)⟩)⟩)⟩)⟩)⟩)⟩)⟩)⟩)⟩)⟩)⟩)⟩)
def zerL : List (Nat × List Value) := [(1, [Value.nilFunc]), (2, [Value.int IntKind.i64 0]), (3, [Value.int IntKind.i64 0]), (4, [Value.bool false]), (5, [Value.int IntKind.u8 0]), (6, [Value.int IntKind.u8 0]), (7, [Value.int IntKind.i64 0, Value.int IntKind.i64 0, Value.bool false, Value.int IntKind.u8 0]), (8, [Value.int IntKind.i64 0, Value.int IntKind.i64 0, Value.bool false, Value.int IntKind.u8 0]), (9, [Value.string { data := #[] }]), (10, [Value.string { data := #[] }]), (11, [Value.string { data := #[] }]), (12, [Value.int IntKind.u64 0]), (13, [Value.string { data := #[] }, Value.int IntKind.u64 0]), (14, [Value.string { data := #[] }, Value.int IntKind.u64 0]), (15, [Value.pointer none]), (16, [Value.pointer none]), (17, [Value.pointer none]), (18, [Value.pointer none]), (19, [Value.pointer none]), (20, [Value.nilIface]), (21, [Value.int IntKind.i32 0]), (22, [Value.slice none 0 0]), (23, [Value.nilFunc]), (24, [Value.nilFunc]), (25, [Value.pointer none]), (26, [Value.nilFunc]), (27, [Value.int IntKind.i64 0, Value.int IntKind.i64 0, Value.int IntKind.i64 0, Value.int IntKind.i64 0, Value.int IntKind.i64 0, Value.int IntKind.i64 0, Value.int IntKind.i64 0, Value.int IntKind.i64 0, Value.int IntKind.i64 0]), (28, [Value.int IntKind.i64 0, Value.int IntKind.i64 0, Value.int IntKind.i64 0, Value.int IntKind.i64 0, Value.int IntKind.i64 0, Value.int IntKind.i64 0, Value.int IntKind.i64 0, Value.int IntKind.i64 0, Value.int IntKind.i64 0]), (29, [Value.int IntKind.i64 0, Value.int IntKind.i64 0, Value.int IntKind.i64 0]), (30, [Value.int IntKind.i64 0, Value.int IntKind.i64 0, Value.int IntKind.i64 0]), (31, [Value.nilFunc]), (32, [Value.int IntKind.u32 0]), (33, [Value.slice none 0 0]), (34, [Value.int IntKind.i64 0, Value.int IntKind.i64 0, Value.bool false, Value.bool false, Value.int IntKind.i64 0, Value.int IntKind.i64 0, Value.int IntKind.i64 0, Value.int IntKind.u32 0, Value.int IntKind.u32 0, Value.slice none 0 0, Value.string { data := #[] }]), (35, [Value.int IntKind.i64 0, Value.int IntKind.i64 0, Value.bool false, Value.bool false, Value.int IntKind.i64 0, Value.int IntKind.i64 0, Value.int IntKind.i64 0, Value.int IntKind.u32 0, Value.int IntKind.u32 0, Value.slice none 0 0, Value.string { data := #[] }]), (36, [Value.int IntKind.i64 0, Value.int IntKind.i64 0, Value.int IntKind.i64 0, Value.int IntKind.u32 0, Value.int IntKind.u32 0, Value.int IntKind.i64 0, Value.int IntKind.i64 0, Value.bool false, Value.bool false, Value.int IntKind.i64 0, Value.int IntKind.i64 0, Value.int IntKind.i64 0, Value.int IntKind.u32 0, Value.int IntKind.u32 0, Value.slice none 0 0, Value.string { data := #[] }]), (37, [Value.int IntKind.i64 0, Value.int IntKind.i64 0, Value.int IntKind.i64 0, Value.int IntKind.u32 0, Value.int IntKind.u32 0, Value.int IntKind.i64 0, Value.int IntKind.i64 0, Value.bool false, Value.bool false, Value.int IntKind.i64 0, Value.int IntKind.i64 0, Value.int IntKind.i64 0, Value.int IntKind.u32 0, Value.int IntKind.u32 0, Value.slice none 0 0, Value.string { data := #[] }]), (38, [Value.nilFunc]), (40, [Value.nilFunc]), (41, [Value.int IntKind.i64 0]), (43, [Value.nilFunc]), (44, [Value.nilFunc]), (45, [Value.nilFunc]), (46, [Value.nilFunc]), (47, [Value.nilFunc]), (48, [Value.nilFunc]), (49, [Value.nilFunc]), (50, [Value.slice none 0 0]), (51, [Value.pointer none]), (53, [Value.nilFunc]), (55, [Value.nilFunc]), (56, [Value.nilFunc]), (57, [Value.nilFunc]), (58, [Value.int IntKind.i64 0, Value.int IntKind.i64 0, Value.int IntKind.u32 0, Value.int IntKind.u32 0, Value.int IntKind.i64 0, Value.int IntKind.i64 0, Value.string { data := #[] }]), (59, [Value.int IntKind.i64 0, Value.int IntKind.i64 0, Value.int IntKind.u32 0, Value.int IntKind.u32 0, Value.int IntKind.i64 0, Value.int IntKind.i64 0, Value.string { data := #[] }]), (60, [Value.nilFunc]), (61, [Value.nilFunc]), (62, [Value.nilFunc]), (63, [Value.int IntKind.i64 0, Value.int IntKind.i64 0]), (64, [Value.int IntKind.i64 0, Value.int IntKind.i64 0]), (65, [Value.int IntKind.i64 0, Value.int IntKind.i64 0, Value.int IntKind.i64 0]), (66, [Value.int IntKind.i64 0, Value.int IntKind.i64 0, Value.int IntKind.i64 0]), (67, [Value.nilFunc]), (68, [Value.int IntKind.i64 0, Value.int IntKind.i64 0, Value.int IntKind.u32 0, Value.string { data := #[] }]), (69, [Value.int IntKind.i64 0, Value.int IntKind.i64 0, Value.int IntKind.u32 0, Value.string { data := #[] }]), (71, [Value.nilFunc]), (72, [Value.nilFunc]), (74, [Value.nilFunc]), (75, [Value.nilFunc]), (76, [Value.nilFunc]), (77, [Value.nilFunc]), (78, [Value.nilFunc]), (79, [Value.nilFunc]), (81, [Value.nilFunc]), (82, [Value.nilFunc]), (83, [Value.nilFunc]), (84, [Value.nilFunc]), (86, [Value.nilFunc]), (87, [Value.nilFunc]), (88, [Value.nilFunc]), (90, [Value.nilFunc]), (91, [Value.nilFunc]), (92, [Value.nilFunc]), (93, [Value.nilFunc]), (94, [Value.int IntKind.i64 0, Value.int IntKind.i64 0]), (95, [Value.int IntKind.i64 0, Value.int IntKind.i64 0]), (96, [Value.int IntKind.i64 0, Value.int IntKind.i64 0, Value.int IntKind.u32 0, Value.slice none 0 0]), (97, [Value.int IntKind.i64 0, Value.int IntKind.i64 0, Value.int IntKind.u32 0, Value.slice none 0 0]), (98, [Value.nilFunc]), (99, [Value.nilFunc]), (100, [Value.nilFunc]), (101, [Value.nilFunc]), (102, [Value.nilFunc]), (103, [Value.int IntKind.u64 0]), (104, [Value.int IntKind.u8 0, Value.int IntKind.u8 0, Value.int IntKind.u8 0, Value.int IntKind.u8 0]), (105, [Value.nilFunc]), (106, [Value.nilFunc]), (107, [Value.pointer none]), (108, [Value.nilFunc]), (109, [Value.nilFunc]), (110, [Value.int IntKind.i64 0, Value.int IntKind.i64 0, Value.int IntKind.i64 0, Value.int IntKind.i64 0, Value.int IntKind.i64 0]), (111, [Value.nilFunc]), (112, [Value.nilFunc]), (113, [Value.nilFunc]), (114, [Value.nilFunc]), (116, [Value.nilFunc]), (117, [Value.nilFunc]), (118, [Value.slice none 0 0]), (119, [Value.nilFunc]), (120, [Value.nilFunc]), (121, [Value.nilFunc]), (122, [Value.nilFunc]), (123, [Value.pointer none]), (124, [Value.bool false]), (125, [Value.bool false]), (126, [Value.pointer none]), (127, [Value.pointer none, Value.slice none 0 0]), (128, [Value.pointer none, Value.slice none 0 0]), (129, [Value.bool false, Value.pointer none, Value.slice none 0 0]), (130, [Value.bool false, Value.pointer none, Value.slice none 0 0]), (131, [Value.nilFunc]), (132, [Value.nilFunc]), (133, [Value.nilFunc]), (134, [Value.nilFunc]), (135, [Value.nilFunc]), (136, [Value.nilFunc]), (137, [Value.nilFunc]), (138, [Value.nilFunc]), (139, [Value.int IntKind.i64 0, Value.string { data := #[] }]), (140, [Value.int IntKind.i64 0, Value.string { data := #[] }]), (141, [Value.int IntKind.i64 0, Value.int IntKind.i64 0]), (142, [Value.int IntKind.i64 0, Value.int IntKind.i64 0]), (143, [Value.int IntKind.i64 0, Value.int IntKind.i64 0, Value.int IntKind.i64 0, Value.int IntKind.i64 0, Value.int IntKind.i64 0, Value.int IntKind.i64 0, Value.int IntKind.i64 0, Value.int IntKind.i64 0, Value.int IntKind.i64 0, Value.int IntKind.i64 0]), (144, [Value.nilFunc]), (145, [Value.pointer none]), (146, [Value.nilFunc]), (147, [Value.nilFunc]), (148, [Value.nilFunc]), (150, [Value.nilFunc]), (152, [Value.nilFunc]), (153, [Value.nilFunc]), (154, [Value.nilFunc]), (155, [Value.nilFunc]), (157, [Value.nilFunc]), (158, [Value.nilFunc]), (159, [Value.slice none 0 0]), (160, [Value.bool false, Value.string { data := #[] }]), (161, [Value.bool false, Value.string { data := #[] }]), (162, [Value.nilFunc]), (163, [Value.nilFunc]), (165, [Value.nilFunc]), (166, [Value.nilFunc]), (167, [Value.slice none 0 0]), (168, [Value.nilIface]), (169, [Value.nilIface]), (171, [Value.nilFunc]), (172, [Value.nilFunc]), (173, [Value.nilFunc]), (174, [Value.nilFunc]), (175, [Value.nilFunc]), (176, [Value.pointer none]), (177, [Value.pointer none, Value.string { data := #[] }, Value.int IntKind.i64 0, Value.int IntKind.i64 0, Value.int IntKind.i64 0, Value.int IntKind.i64 0, Value.bool false, Value.bool false, Value.int IntKind.i64 0, Value.int IntKind.i64 0, Value.int IntKind.i64 0, Value.int IntKind.u32 0, Value.int IntKind.u32 0, Value.slice none 0 0, Value.string { data := #[] }]), (178, [Value.pointer none, Value.string { data := #[] }, Value.int IntKind.i64 0, Value.int IntKind.i64 0, Value.int IntKind.i64 0, Value.int IntKind.i64 0, Value.bool false, Value.bool false, Value.int IntKind.i64 0, Value.int IntKind.i64 0, Value.int IntKind.i64 0, Value.int IntKind.u32 0, Value.int IntKind.u32 0, Value.slice none 0 0, Value.string { data := #[] }]), (179, [Value.nilFunc]), (180, [Value.nilFunc, Value.nilFunc, Value.nilFunc]), (181, [Value.pointer none]), (182, [Value.pointer none, Value.string { data := #[] }, Value.bool false, Value.int IntKind.i64 0, Value.int IntKind.i64 0, Value.int IntKind.u32 0, Value.int IntKind.u32 0, Value.int IntKind.i64 0, Value.int IntKind.i64 0, Value.string { data := #[] }]), (183, [Value.pointer none, Value.string { data := #[] }, Value.bool false, Value.int IntKind.i64 0, Value.int IntKind.i64 0, Value.int IntKind.u32 0, Value.int IntKind.u32 0, Value.int IntKind.i64 0, Value.int IntKind.i64 0, Value.string { data := #[] }]), (184, [Value.nilFunc]), (186, [Value.nilFunc]), (187, [Value.nilFunc]), (188, [Value.pointer none]), (189, [Value.pointer none]), (190, [Value.nilFunc]), (192, [Value.nilFunc]), (193, [Value.pointer none]), (194, [Value.nilFunc]), (195, [Value.nilFunc]), (196, [Value.nilFunc]), (198, [Value.nilFunc]), (199, [Value.pointer none, Value.pointer none, Value.pointer none, Value.string { data := #[] }]), (200, [Value.pointer none, Value.pointer none, Value.pointer none, Value.string { data := #[] }]), (201, []), (202, []), (203, []), (204, [Value.int IntKind.u8 0]), (205, [Value.int IntKind.u8 0]), (206, [Value.nilFunc]), (207, [Value.int IntKind.i32 0]), (208, [Value.int IntKind.i32 0]), (209, [Value.int IntKind.u64 0, Value.int IntKind.u64 0, Value.int IntKind.u32 0, Value.int IntKind.u8 0, Value.int IntKind.u8 0, Value.int IntKind.u8 0, Value.int IntKind.u8 0, Value.nilFunc, Value.pointer none, Value.int IntKind.i32 0, Value.int IntKind.i32 0]), (210, [Value.int IntKind.u64 0, Value.int IntKind.u64 0, Value.int IntKind.u32 0, Value.int IntKind.u8 0, Value.int IntKind.u8 0, Value.int IntKind.u8 0, Value.int IntKind.u8 0, Value.nilFunc, Value.pointer none, Value.int IntKind.i32 0, Value.int IntKind.i32 0])]
set_option maxRecDepth 100000 in
theorem zerAll : ∀ x ∈ zerL, ∀ w, ∃ z, (zeroValue x.1).run Tryz.prog w = .ok z w ∧ z.cells = x.2.toArray :=
  (List.forall_mem_cons.2 ⟨fun w => ⟨_, Tryz.zeroValue1 w, rfl⟩, (List.forall_mem_cons.2 ⟨fun w => ⟨_, Tryz.zeroValue2 w, rfl⟩, (List.forall_mem_cons.2 ⟨fun w => ⟨_, Tryz.zeroValue3 w, rfl⟩, (List.forall_mem_cons.2 ⟨fun w => ⟨_, Tryz.zeroValue4 w, rfl⟩, (List.forall_mem_cons.2 ⟨fun w => ⟨_, Tryz.zeroValue5 w, rfl⟩, (List.forall_mem_cons.2 ⟨fun w => ⟨_, Tryz.zeroValue6 w, rfl⟩, (List.forall_mem_cons.2 ⟨fun w => ⟨_, Tryz.zeroValue7 w, rfl⟩, (List.forall_mem_cons.2 ⟨fun w => ⟨_, Tryz.zeroValue8 w, rfl⟩, (List.forall_mem_cons.2 ⟨fun w => ⟨_, Tryz.zeroValue9 w, rfl⟩, (List.forall_mem_cons.2 ⟨fun w => ⟨_, Tryz.zeroValue10 w, rfl⟩, (List.forall_mem_cons.2 ⟨fun w => ⟨_, Tryz.zeroValue11 w, rfl⟩, (List.forall_mem_cons.2 ⟨fun w => ⟨_, Tryz.zeroValue12 w, rfl⟩, (List.forall_mem_cons.2 ⟨fun w => ⟨_, Tryz.zeroValue13 w, rfl⟩, (List.forall_mem_cons.2 ⟨fun w => ⟨_, Tryz.zeroValue14 w, rfl⟩, (List.forall_mem_cons.2 ⟨fun w => ⟨_, Tryz.zeroValue15 w, rfl⟩, (List.forall_mem_cons.2 ⟨fun w => ⟨_, Tryz.zeroValue16 w, rfl⟩, (List.forall_mem_cons.2 ⟨fun w => ⟨_, Tryz.zeroValue17 w, rfl⟩, (List.forall_mem_cons.2 ⟨fun w => ⟨_, Tryz.zeroValue18 w, rfl⟩, (List.forall_mem_cons.2 ⟨fun w => ⟨_, Tryz.zeroValue19 w, rfl⟩, (List.forall_mem_cons.2 ⟨fun w => ⟨_, Tryz.zeroValue20 w, rfl⟩, (List.forall_mem_cons.2 ⟨fun w => ⟨_, Tryz.zeroValue21 w, rfl⟩, (List.forall_mem_cons.2 ⟨fun w => ⟨_, Tryz.zeroValue22 w, rfl⟩, (List.forall_mem_cons.2 ⟨fun w => ⟨_, Tryz.zeroValue23 w, rfl⟩, (List.forall_mem_cons.2 ⟨fun w => ⟨_, Tryz.zeroValue24 w, rfl⟩, (List.forall_mem_cons.2 ⟨fun w => ⟨_, Tryz.zeroValue25 w, rfl⟩, (List.forall_mem_cons.2 ⟨fun w => ⟨_, Tryz.zeroValue26 w, rfl⟩, (List.forall_mem_cons.2 ⟨fun w => ⟨_, Tryz.zeroValue27 w, rfl⟩, (List.forall_mem_cons.2 ⟨fun w => ⟨_, Tryz.zeroValue28 w, rfl⟩, (List.forall_mem_cons.2 ⟨fun w => ⟨_, Tryz.zeroValue29 w, rfl⟩, (List.forall_mem_cons.2 ⟨fun w => ⟨_, Tryz.zeroValue30 w, rfl⟩, (List.forall_mem_cons.2 ⟨fun w => ⟨_, Tryz.zeroValue31 w, rfl⟩, (List.forall_mem_cons.2 ⟨fun w => ⟨_, Tryz.zeroValue32 w, rfl⟩, (List.forall_mem_cons.2 ⟨fun w => ⟨_, Tryz.zeroValue33 w, rfl⟩, (List.forall_mem_cons.2 ⟨fun w => ⟨_, Tryz.zeroValue34 w, rfl⟩, (List.forall_mem_cons.2 ⟨fun w => ⟨_, Tryz.zeroValue35 w, rfl⟩, (List.forall_mem_cons.2 ⟨fun w => ⟨_, Tryz.zeroValue36 w, rfl⟩, (List.forall_mem_cons.2 ⟨fun w => ⟨_, Tryz.zeroValue37 w, rfl⟩, (List.forall_mem_cons.2 ⟨fun w => ⟨_, Tryz.zeroValue38 w, rfl⟩, (List.forall_mem_cons.2 ⟨fun w => ⟨_, Tryz.zeroValue40 w, rfl⟩, (List.forall_mem_cons.2 ⟨fun w => ⟨_, Tryz.zeroValue41 w, rfl⟩, (List.forall_mem_cons.2 ⟨fun w => ⟨_, Tryz.zeroValue43 w, rfl⟩, (List.forall_mem_cons.2 ⟨fun w => ⟨_, Tryz.zeroValue44 w, rfl⟩, (List.forall_mem_cons.2 ⟨fun w => ⟨_, Tryz.zeroValue45 w, rfl⟩, (List.forall_mem_cons.2 ⟨fun w => ⟨_, Tryz.zeroValue46 w, rfl⟩, (List.forall_mem_cons.2 ⟨fun w => ⟨_, Tryz.zeroValue47 w, rfl⟩, (List.forall_mem_cons.2 ⟨fun w => ⟨_, Tryz.zeroValue48 w, rfl⟩, (List.forall_mem_cons.2 ⟨fun w => ⟨_, Tryz.zeroValue49 w, rfl⟩, (List.forall_mem_cons.2 ⟨fun w => ⟨_, Tryz.zeroValue50 w, rfl⟩, (List.forall_mem_cons.2 ⟨fun w => ⟨_, Tryz.zeroValue51 w, rfl⟩, (List.forall_mem_cons.2 ⟨fun w => ⟨_, Tryz.zeroValue53 w, rfl⟩, (List.forall_mem_cons.2 ⟨fun w => ⟨_, Tryz.zeroValue55 w, rfl⟩, (List.forall_mem_cons.2 ⟨fun w => ⟨_, Tryz.zeroValue56 w, rfl⟩, (List.forall_mem_cons.2 ⟨fun w => ⟨_, Tryz.zeroValue57 w, rfl⟩, (List.forall_mem_cons.2 ⟨fun w => ⟨_, Tryz.zeroValue58 w, rfl⟩, (List.forall_mem_cons.2 ⟨fun w => ⟨_, Tryz.zeroValue59 w, rfl⟩, (List.forall_mem_cons.2 ⟨fun w => ⟨_, Tryz.zeroValue60 w, rfl⟩, (List.forall_mem_cons.2 ⟨fun w => ⟨_, Tryz.zeroValue61 w, rfl⟩, (List.forall_mem_cons.2 ⟨fun w => ⟨_, Tryz.zeroValue62 w, rfl⟩, (List.forall_mem_cons.2 ⟨fun w => ⟨_, Tryz.zeroValue63 w, rfl⟩, (List.forall_mem_cons.2 ⟨fun w => ⟨_, Tryz.zeroValue64 w, rfl⟩, (List.forall_mem_cons.2 ⟨fun w => ⟨_, Tryz.zeroValue65 w, rfl⟩, (List.forall_mem_cons.2 ⟨fun w => ⟨_, Tryz.zeroValue66 w, rfl⟩, (List.forall_mem_cons.2 ⟨fun w => ⟨_, Tryz.zeroValue67 w, rfl⟩, (List.forall_mem_cons.2 ⟨fun w => ⟨_, Tryz.zeroValue68 w, rfl⟩, (List.forall_mem_cons.2 ⟨fun w => ⟨_, Tryz.zeroValue69 w, rfl⟩, (List.forall_mem_cons.2 ⟨fun w => ⟨_, Tryz.zeroValue71 w, rfl⟩, (List.forall_mem_cons.2 ⟨fun w => ⟨_, Tryz.zeroValue72 w, rfl⟩, (List.forall_mem_cons.2 ⟨fun w => ⟨_, Tryz.zeroValue74 w, rfl⟩, (List.forall_mem_cons.2 ⟨fun w => ⟨_, Tryz.zeroValue75 w, rfl⟩, (List.forall_mem_cons.2 ⟨fun w => ⟨_, Tryz.zeroValue76 w, rfl⟩, (List.forall_mem_cons.2 ⟨fun w => ⟨_, Tryz.zeroValue77 w, rfl⟩, (List.forall_mem_cons.2 ⟨fun w => ⟨_, Tryz.zeroValue78 w, rfl⟩, (List.forall_mem_cons.2 ⟨fun w => ⟨_, Tryz.zeroValue79 w, rfl⟩, (List.forall_mem_cons.2 ⟨fun w => ⟨_, Tryz.zeroValue81 w, rfl⟩, (List.forall_mem_cons.2 ⟨fun w => ⟨_, Tryz.zeroValue82 w, rfl⟩, (List.forall_mem_cons.2 ⟨fun w => ⟨_, Tryz.zeroValue83 w, rfl⟩, (List.forall_mem_cons.2 ⟨fun w => ⟨_, Tryz.zeroValue84 w, rfl⟩, (List.forall_mem_cons.2 ⟨fun w => ⟨_, Tryz.zeroValue86 w, rfl⟩, (List.forall_mem_cons.2 ⟨fun w => ⟨_, Tryz.zeroValue87 w, rfl⟩, (List.forall_mem_cons.2 ⟨fun w => ⟨_, Tryz.zeroValue88 w, rfl⟩, (List.forall_mem_cons.2 ⟨fun w => ⟨_, Tryz.zeroValue90 w, rfl⟩, (List.forall_mem_cons.2 ⟨fun w => ⟨_, Tryz.zeroValue91 w, rfl⟩, (List.forall_mem_cons.2 ⟨fun w => ⟨_, Tryz.zeroValue92 w, rfl⟩, (List.forall_mem_cons.2 ⟨fun w => ⟨_, Tryz.zeroValue93 w, rfl⟩, (List.forall_mem_cons.2 ⟨fun w => ⟨_, Tryz.zeroValue94 w, rfl⟩, (List.forall_mem_cons.2 ⟨fun w => ⟨_, Tryz.zeroValue95 w, rfl⟩, (List.forall_mem_cons.2 ⟨fun w => ⟨_, Tryz.zeroValue96 w, rfl⟩, (List.forall_mem_cons.2 ⟨fun w => ⟨_, Tryz.zeroValue97 w, rfl⟩, (List.forall_mem_cons.2 ⟨fun w => ⟨_, Tryz.zeroValue98 w, rfl⟩, (List.forall_mem_cons.2 ⟨fun w => ⟨_, Tryz.zeroValue99 w, rfl⟩, (List.forall_mem_cons.2 ⟨fun w => ⟨_, Tryz.zeroValue100 w, rfl⟩, (List.forall_mem_cons.2 ⟨fun w => ⟨_, Tryz.zeroValue101 w, rfl⟩, (List.forall_mem_cons.2 ⟨fun w => ⟨_, Tryz.zeroValue102 w, rfl⟩, (List.forall_mem_cons.2 ⟨fun w => ⟨_, Tryz.zeroValue103 w, rfl⟩, (List.forall_mem_cons.2 ⟨fun w => ⟨_, Tryz.zeroValue104 w, rfl⟩, (List.forall_mem_cons.2 ⟨fun w => ⟨_, Tryz.zeroValue105 w, rfl⟩, (List.forall_mem_cons.2 ⟨fun w => ⟨_, Tryz.zeroValue106 w, rfl⟩, (List.forall_mem_cons.2 ⟨fun w => ⟨_, Tryz.zeroValue107 w, rfl⟩, (List.forall_mem_cons.2 ⟨fun w => ⟨_, Tryz.zeroValue108 w, rfl⟩, (List.forall_mem_cons.2 ⟨fun w => ⟨_, Tryz.zeroValue109 w, rfl⟩, (List.forall_mem_cons.2 ⟨fun w => ⟨_, Tryz.zeroValue110 w, rfl⟩, (List.forall_mem_cons.2 ⟨fun w => ⟨_, Tryz.zeroValue111 w, rfl⟩, (List.forall_mem_cons.2 ⟨fun w => ⟨_, Tryz.zeroValue112 w, rfl⟩, (List.forall_mem_cons.2 ⟨fun w => ⟨_, Tryz.zeroValue113 w, rfl⟩, (List.forall_mem_cons.2 ⟨fun w => ⟨_, Tryz.zeroValue114 w, rfl⟩, (List.forall_mem_cons.2 ⟨fun w => ⟨_, Tryz.zeroValue116 w, rfl⟩, (List.forall_mem_cons.2 ⟨fun w => ⟨_, Tryz.zeroValue117 w, rfl⟩, (List.forall_mem_cons.2 ⟨fun w => ⟨_, Tryz.zeroValue118 w, rfl⟩, (List.forall_mem_cons.2 ⟨fun w => ⟨_, Tryz.zeroValue119 w, rfl⟩, (List.forall_mem_cons.2 ⟨fun w => ⟨_, Tryz.zeroValue120 w, rfl⟩, (List.forall_mem_cons.2 ⟨fun w => ⟨_, Tryz.zeroValue121 w, rfl⟩, (List.forall_mem_cons.2 ⟨fun w => ⟨_, Tryz.zeroValue122 w, rfl⟩, (List.forall_mem_cons.2 ⟨fun w => ⟨_, Tryz.zeroValue123 w, rfl⟩, (List.forall_mem_cons.2 ⟨fun w => ⟨_, Tryz.zeroValue124 w, rfl⟩, (List.forall_mem_cons.2 ⟨fun w => ⟨_, Tryz.zeroValue125 w, rfl⟩, (List.forall_mem_cons.2 ⟨fun w => ⟨_, Tryz.zeroValue126 w, rfl⟩, (List.forall_mem_cons.2 ⟨fun w => ⟨_, Tryz.zeroValue127 w, rfl⟩, (List.forall_mem_cons.2 ⟨fun w => ⟨_, Tryz.zeroValue128 w, rfl⟩, (List.forall_mem_cons.2 ⟨fun w => ⟨_, Tryz.zeroValue129 w, rfl⟩, (List.forall_mem_cons.2 ⟨fun w => ⟨_, Tryz.zeroValue130 w, rfl⟩, (List.forall_mem_cons.2 ⟨fun w => ⟨_, Tryz.zeroValue131 w, rfl⟩, (List.forall_mem_cons.2 ⟨fun w => ⟨_, Tryz.zeroValue132 w, rfl⟩, (List.forall_mem_cons.2 ⟨fun w => ⟨_, Tryz.zeroValue133 w, rfl⟩, (List.forall_mem_cons.2 ⟨fun w => ⟨_, Tryz.zeroValue134 w, rfl⟩, (List.forall_mem_cons.2 ⟨fun w => ⟨_, Tryz.zeroValue135 w, rfl⟩, (List.forall_mem_cons.2 ⟨fun w => ⟨_, Tryz.zeroValue136 w, rfl⟩, (List.forall_mem_cons.2 ⟨fun w => ⟨_, Tryz.zeroValue137 w, rfl⟩, (List.forall_mem_cons.2 ⟨fun w => ⟨_, Tryz.zeroValue138 w, rfl⟩, (List.forall_mem_cons.2 ⟨fun w => ⟨_, Tryz.zeroValue139 w, rfl⟩, (List.forall_mem_cons.2 ⟨fun w => ⟨_, Tryz.zeroValue140 w, rfl⟩, (List.forall_mem_cons.2 ⟨fun w => ⟨_, Tryz.zeroValue141 w, rfl⟩, (List.forall_mem_cons.2 ⟨fun w => ⟨_, Tryz.zeroValue142 w, rfl⟩, (List.forall_mem_cons.2 ⟨fun w => ⟨_, Tryz.zeroValue143 w, rfl⟩, (List.forall_mem_cons.2 ⟨fun w => ⟨_, Tryz.zeroValue144 w, rfl⟩, (List.forall_mem_cons.2 ⟨fun w => ⟨_, Tryz.zeroValue145 w, rfl⟩, (List.forall_mem_cons.2 ⟨fun w => ⟨_, Tryz.zeroValue146 w, rfl⟩, (List.forall_mem_cons.2 ⟨fun w => ⟨_, Tryz.zeroValue147 w, rfl⟩, (List.forall_mem_cons.2 ⟨fun w => ⟨_, Tryz.zeroValue148 w, rfl⟩, (List.forall_mem_cons.2 ⟨fun w => ⟨_, Tryz.zeroValue150 w, rfl⟩, (List.forall_mem_cons.2 ⟨fun w => ⟨_, Tryz.zeroValue152 w, rfl⟩, (List.forall_mem_cons.2 ⟨fun w => ⟨_, Tryz.zeroValue153 w, rfl⟩, (List.forall_mem_cons.2 ⟨fun w => ⟨_, Tryz.zeroValue154 w, rfl⟩, (List.forall_mem_cons.2 ⟨fun w => ⟨_, Tryz.zeroValue155 w, rfl⟩, (List.forall_mem_cons.2 ⟨fun w => ⟨_, Tryz.zeroValue157 w, rfl⟩, (List.forall_mem_cons.2 ⟨fun w => ⟨_, Tryz.zeroValue158 w, rfl⟩, (List.forall_mem_cons.2 ⟨fun w => ⟨_, Tryz.zeroValue159 w, rfl⟩, (List.forall_mem_cons.2 ⟨fun w => ⟨_, Tryz.zeroValue160 w, rfl⟩, (List.forall_mem_cons.2 ⟨fun w => ⟨_, Tryz.zeroValue161 w, rfl⟩, (List.forall_mem_cons.2 ⟨fun w => ⟨_, Tryz.zeroValue162 w, rfl⟩, (List.forall_mem_cons.2 ⟨fun w => ⟨_, Tryz.zeroValue163 w, rfl⟩, (List.forall_mem_cons.2 ⟨fun w => ⟨_, Tryz.zeroValue165 w, rfl⟩, (List.forall_mem_cons.2 ⟨fun w => ⟨_, Tryz.zeroValue166 w, rfl⟩, (List.forall_mem_cons.2 ⟨fun w => ⟨_, Tryz.zeroValue167 w, rfl⟩, (List.forall_mem_cons.2 ⟨fun w => ⟨_, Tryz.zeroValue168 w, rfl⟩, (List.forall_mem_cons.2 ⟨fun w => ⟨_, Tryz.zeroValue169 w, rfl⟩, (List.forall_mem_cons.2 ⟨fun w => ⟨_, Tryz.zeroValue171 w, rfl⟩, (List.forall_mem_cons.2 ⟨fun w => ⟨_, Tryz.zeroValue172 w, rfl⟩, (List.forall_mem_cons.2 ⟨fun w => ⟨_, Tryz.zeroValue173 w, rfl⟩, (List.forall_mem_cons.2 ⟨fun w => ⟨_, Tryz.zeroValue174 w, rfl⟩, (List.forall_mem_cons.2 ⟨fun w => ⟨_, Tryz.zeroValue175 w, rfl⟩, (List.forall_mem_cons.2 ⟨fun w => ⟨_, Tryz.zeroValue176 w, rfl⟩, (List.forall_mem_cons.2 ⟨fun w => ⟨_, Tryz.zeroValue177 w, rfl⟩, (List.forall_mem_cons.2 ⟨fun w => ⟨_, Tryz.zeroValue178 w, rfl⟩, (List.forall_mem_cons.2 ⟨fun w => ⟨_, Tryz.zeroValue179 w, rfl⟩, (List.forall_mem_cons.2 ⟨fun w => ⟨_, Tryz.zeroValue180 w, rfl⟩, (List.forall_mem_cons.2 ⟨fun w => ⟨_, Tryz.zeroValue181 w, rfl⟩, (List.forall_mem_cons.2 ⟨fun w => ⟨_, Tryz.zeroValue182 w, rfl⟩, (List.forall_mem_cons.2 ⟨fun w => ⟨_, Tryz.zeroValue183 w, rfl⟩, (List.forall_mem_cons.2 ⟨fun w => ⟨_, Tryz.zeroValue184 w, rfl⟩, (List.forall_mem_cons.2 ⟨fun w => ⟨_, Tryz.zeroValue186 w, rfl⟩, (List.forall_mem_cons.2 ⟨fun w => ⟨_, Tryz.zeroValue187 w, rfl⟩, (List.forall_mem_cons.2 ⟨fun w => ⟨_, Tryz.zeroValue188 w, rfl⟩, (List.forall_mem_cons.2 ⟨fun w => ⟨_, Tryz.zeroValue189 w, rfl⟩, (List.forall_mem_cons.2 ⟨fun w => ⟨_, Tryz.zeroValue190 w, rfl⟩, (List.forall_mem_cons.2 ⟨fun w => ⟨_, Tryz.zeroValue192 w, rfl⟩, (List.forall_mem_cons.2 ⟨fun w => ⟨_, Tryz.zeroValue193 w, rfl⟩, (List.forall_mem_cons.2 ⟨fun w => ⟨_, Tryz.zeroValue194 w, rfl⟩, (List.forall_mem_cons.2 ⟨fun w => ⟨_, Tryz.zeroValue195 w, rfl⟩, (List.forall_mem_cons.2 ⟨fun w => ⟨_, Tryz.zeroValue196 w, rfl⟩, (List.forall_mem_cons.2 ⟨fun w => ⟨_, Tryz.zeroValue198 w, rfl⟩, (List.forall_mem_cons.2 ⟨fun w => ⟨_, Tryz.zeroValue199 w, rfl⟩, (List.forall_mem_cons.2 ⟨fun w => ⟨_, Tryz.zeroValue200 w, rfl⟩, (List.forall_mem_cons.2 ⟨fun w => ⟨_, Tryz.zeroValue201 w, rfl⟩, (List.forall_mem_cons.2 ⟨fun w => ⟨_, Tryz.zeroValue202 w, rfl⟩, (List.forall_mem_cons.2 ⟨fun w => ⟨_, Tryz.zeroValue203 w, rfl⟩, (List.forall_mem_cons.2 ⟨fun w => ⟨_, Tryz.zeroValue204 w, rfl⟩, (List.forall_mem_cons.2 ⟨fun w => ⟨_, Tryz.zeroValue205 w, rfl⟩, (List.forall_mem_cons.2 ⟨fun w => ⟨_, Tryz.zeroValue206 w, rfl⟩, (List.forall_mem_cons.2 ⟨fun w => ⟨_, Tryz.zeroValue207 w, rfl⟩, (List.forall_mem_cons.2 ⟨fun w => ⟨_, Tryz.zeroValue208 w, rfl⟩, (List.forall_mem_cons.2 ⟨fun w => ⟨_, Tryz.zeroValue209 w, rfl⟩, (List.forall_mem_cons.2 ⟨fun w => ⟨_, Tryz.zeroValue210 w, rfl⟩, (List.forall_mem_nil _)⟩)⟩)⟩)⟩)⟩)⟩)⟩)⟩)⟩)⟩)⟩)⟩)⟩)⟩)⟩)⟩)⟩)⟩)⟩)⟩)⟩)⟩)⟩)⟩)⟩)⟩)⟩)⟩)⟩)⟩)⟩)⟩)⟩)⟩)⟩)⟩)⟩)⟩)⟩)⟩)⟩)⟩)⟩)⟩)⟩)⟩)⟩)⟩)⟩)⟩)⟩)⟩)⟩)⟩)⟩)⟩)⟩)⟩)⟩)⟩)⟩)⟩)⟩)⟩)⟩)⟩)⟩)⟩)⟩)⟩)⟩)⟩)⟩)⟩)⟩)⟩)⟩)⟩)⟩)⟩)⟩)⟩)⟩)⟩)⟩)⟩)⟩)⟩)⟩)⟩)⟩)⟩)⟩)⟩)⟩)⟩)⟩)⟩)⟩)⟩)⟩)⟩)⟩)⟩)⟩)⟩)⟩)⟩)⟩)⟩)⟩)⟩)⟩)⟩)⟩)⟩)⟩)⟩)⟩)⟩)⟩)⟩)⟩)⟩)⟩)⟩)⟩)⟩)⟩)⟩)⟩)⟩)⟩)⟩)⟩)⟩)⟩)⟩)⟩)⟩)⟩)⟩)⟩)⟩)⟩)⟩)⟩)⟩)⟩)⟩)⟩)⟩)⟩)⟩)⟩)⟩)⟩)⟩)⟩)⟩)⟩)⟩)⟩)⟩)⟩)⟩)⟩)⟩)⟩)⟩)⟩)⟩)⟩)⟩)⟩)⟩)⟩)⟩)⟩)⟩)⟩)⟩)⟩)⟩)⟩)⟩)⟩)⟩)⟩)⟩)⟩)⟩)
section
variable {w0 : World} {S : List Nat} {Q : SP} {rs : List Res} {ops : Array Oper} {l l' : List Value} {ds : List Deferred} {rest : List Oper} {d : Tmp} {ty : TypeId} {pos : String} {aft : Array Edge} {gd : Option (Nat × Bool)} {dt : Option Tmp}
/-- A guard that was passed over itself. -/
theorem unwant_u {ol : List Oper} {o : Oper} {g : Nat} {t : Tmp} {b : Bool} (hg : o.guard = some (g, b)) (ht : (ol[g]?).bind (·.dst) = some t) (hb : opnd l (.tmp t) = some undef) : Region.wanted o (yielded ol.toArray l.toArray) = false := by
  simp only [opnd] at hb
  simp [Region.wanted, hg, yielded, ht, hb, undef]
theorem aggT {T : TypeId} (h : look aggL T = some true) : ∀ w, (isAgg T).run Tryz.prog w = .ok true w := aggAll _ (look_mem h)
theorem aggF {T : TypeId} (h : look aggL T = some false) : ∀ w, (isAgg T).run Tryz.prog w = .ok false w := aggAll _ (look_mem h)
theorem sizT {T n : Nat} (h : look sizL T = some n) : ∀ w, (sizeOf T).run Tryz.prog w = .ok n w := sizAll _ (look_mem h)
theorem run_call {f : FuncId} {xs : List Operand} {ts : Array TypeId} {vs : List Value} (hx : opnds l xs = some vs) (h : look calL f = some ()) (w : World) :
    (execOp (Act.eval ⟨l.toArray, ds⟩) ⟨dt, .call { callee := .value (.func f), args := xs.toArray, argTypes := ts }, ty, pos, aft, gd⟩).run Tryz.prog w = .ok (.enter f vs.toArray) w := by
  have key : ∀ (xs : List Operand) (vs : List Value), opnds l xs = some vs → xs.map (Act.eval ⟨l.toArray, ds⟩) = vs := by
    intro xs
    induction xs with
    | nil => intro vs h; simp only [opnds] at h; injection h
    | cons x xs ih =>
      intro vs h
      simp only [opnds] at h
      split at h
      · rename_i v us h1 h2
        injection h with h
        subst h
        rw [List.map_cons, opnd_eval h1, ih us h2]
      · cases h
  have hf : Act.eval ⟨l.toArray, ds⟩ (.func f) = .func (.func f) #[] #[] := rfl
  simp only [execOp, Sem.run_bind, resolve, hf, Deferred.ofValue, List.map_toArray, key xs vs hx, Sem.run_pure, Result.andThen_ok, invoke]
  have := calAll _ (look_mem h) vs.toArray w
  simpa using this
theorem opv_fld {T : TypeId} {x : Operand} {f n o off o' : Nat} (hx : opnd l x = some (.pointer (some ⟨n, o, none⟩))) {offs : List (Option Nat)} (h : look fldL T = some offs) (hk : offs[f]? = some (some off)) (ho : o + off = o') :
    OpVal Tryz.prog w0 S rs l ds ⟨dt, .fieldAddr T x f, ty, pos, aft, gd⟩ (.pointer (some ⟨n, o', none⟩)) := by
  subst ho
  exact opv_fieldAddr hx (fun w _ => fldAll _ (look_mem h) f off hk n o w)
/-- What a load of a known block's cells yields. -/
def LoadV (T : TypeId) (cs : List Value) (off : Nat) (v : Value) : Prop := ∀ (w : World) (n : Nat) (t : TypeId), Blk w n cs t → (Instr.loadAt T (.pointer (some ⟨n, off, none⟩))).run Tryz.prog w = .ok v w
theorem LoadV.one {T : TypeId} {cs : List Value} {off : Nat} {v : Value} (hT : look aggL T = some false) (hv : cs[off]? = some v) : LoadV T cs off v := fun w n t hb =>
  run_load1 (aggF hT) (by rw [hb.cell]; simpa using hv)
theorem LoadV.whole {T : TypeId} {cs : List Value} (hT : look aggL T = some true) (hz : look sizL T = some cs.length) : LoadV T cs 0 (.agg cs.toArray) := fun w n t hb =>
  run_loadN (aggT hT) (sizT hz) (fun j v hj => by rw [hb.cell]; simpa using hj)
theorem LoadV.part {T : TypeId} {cs vs : List Value} {off m : Nat} (hT : look aggL T = some true) (hz : look sizL T = some m) (hv : (cs.drop off).take m = vs) (hm : vs.length = m) : LoadV T cs off (.agg vs.toArray) := fun w n t hb => by
  subst hm
  refine run_loadN (aggT hT) (sizT hz) (fun j v hj => ?_)
  rw [hb.cell]
  have hlt := (List.getElem?_eq_some_iff.1 hj).1
  rw [← hv, List.getElem?_take, if_pos hlt, List.getElem?_drop] at hj
  simpa using hj
theorem opv_load {T : TypeId} {x : Operand} {n off : Nat} {v : Value} {cs : List Value} {t : TypeId} (hx : opnd l x = some (.pointer (some ⟨n, off, none⟩))) (hm : blk n cs t ∈ rs) (hv : LoadV T cs off v) :
    OpVal Tryz.prog w0 S rs l ds ⟨dt, .load T x, ty, pos, aft, gd⟩ v := fun w hs => by
  simp only [execOp, opnd_eval hx, Sem.run_bind, hv w n t (hs.all _ hm)]; rfl
/-- One of the things is another one now. -/
inductive Upd (r r' : Res) : List Res → List Res → Prop
  | head {tl : List Res} : Upd r r' (r :: tl) (r' :: tl)
  | tail {x : Res} {tl tl' : List Res} : Upd r r' tl tl' → Upd r r' (x :: tl) (x :: tl')
theorem Upd.split {r r' : Res} {a b : List Res} (h : Upd r r' a b) : ∃ pre post, a = pre ++ r :: post ∧ b = pre ++ r' :: post := by
  induction h with
  | head => exact ⟨[], _, rfl, rfl⟩
  | tail _ ih => obtain ⟨pre, post, rfl, rfl⟩ := ih; exact ⟨_ :: pre, post, rfl, rfl⟩
theorem Sep.updU {w w' : World} {r r' : Res} {rs' : List Res} (h : Sep w0 S rs w) (hu : Upd r r' rs rs') (hm : Mod r.foot w w') (hr : r'.holds w') (hf : ∀ n ∈ r'.foot, n ∈ r.foot ∨ w.heap.size ≤ n) : Sep w0 S rs' w' := by
  obtain ⟨pre, post, rfl, rfl⟩ := hu.split
  exact h.upd hm hr hf
theorem Upd.mem {r r' : Res} {a b : List Res} (h : Upd r r' a b) : r ∈ a := by obtain ⟨pre, post, rfl, rfl⟩ := h.split; simp
/-- What a store makes of a block's cells. -/
def StoreV (T : TypeId) (cs : List Value) (off : Nat) (v : Value) (cs' : List Value) : Prop := ∀ (w : World) (n : Nat) (t : TypeId), Blk w n cs t → ∃ w', (Instr.storeAt T (.pointer (some ⟨n, off, none⟩)) v).run Tryz.prog w = .ok () w' ∧ Blk w' n cs' t ∧ Mod [n] w w' ∧ OnlyAt n w w'
theorem StoreV.one {T : TypeId} {cs cs' : List Value} {off : Nat} {v : Value} (hz : look sizL T = some 1) (h1 : v.oneCell' = true) (hlt : off < cs.length) (hc : cs.set off v = cs') : StoreV T cs off v cs' := fun w n t hb => by
  subst hc
  exact ⟨_, run_store1 (sizT hz) h1 (show w.cell? ⟨n, off, none⟩ = some cs[off] by rw [hb.cell]; simp [hlt]) (hb.free off), hb.set off v, (Mod.refl _ _).setCell (fun _ => by simp) v, rfl, rfl, rfl, by simp, fun j hj => Below.heap_setCell _ _ _ _ hj⟩
theorem StoreV.many {T : TypeId} {cs cs' vs : List Value} {off : Nat} (hz : look sizL T = some vs.length) (h1 : vs.all (·.oneCell') = true) (hlt : off + vs.length ≤ cs.length) (hc : cs.take off ++ vs ++ cs.drop (off + vs.length) = cs') : StoreV T cs off (.agg vs.toArray) cs' := fun w n t hb => by
  subst hc
  exact ⟨_, run_storeN (sizT hz) (by simpa using h1) hb hlt, setRow_heap w n _ _ _ _ hb, ⟨rfl, rfl, rfl, by simp, fun j hj hn => setRow_other w n j _ (by simpa using hn)⟩, rfl, rfl, rfl, by simp, fun j hj => setRow_other w n j _ hj⟩
theorem seqS_store {T : TypeId} {x y : Operand} {n off : Nat} {v : Value} {cs cs' : List Value} {t : TypeId} {rs' : List Res} (hw : Region.wanted ⟨none, .store T x y, ty, pos, aft, gd⟩ (yielded ops l.toArray) = true)
    (hx : opnd l x = some (.pointer (some ⟨n, off, none⟩))) (hy : opnd l y = some v) (hu : Upd (blk n cs t) (blk n cs' t) rs rs') (hv : StoreV T cs off v cs')
    (h : seqS Tryz.prog w0 S ops Q rest ⟨l.toArray, ds⟩ rs') : seqS Tryz.prog w0 S ops Q (⟨none, .store T x y, ty, pos, aft, gd⟩ :: rest) ⟨l.toArray, ds⟩ rs :=
  seqS_put hw rfl (fun w hs => by
    obtain ⟨w', hr, hb, hm, _⟩ := hv w n t (hs.all _ hu.mem)
    refine ⟨w', ?_, hs.updU hu hm hb (by simp [blk])⟩
    simp only [execOp, opnd_eval hx, opnd_eval hy, Sem.run_bind, hr]
    rfl) h
theorem RV.load {T : TypeId} {a : Tmp} {n off : Nat} {v : Value} {cs : List Value} {t : TypeId} (ha : opnd l (.tmp a) = some (.pointer (some ⟨n, off, none⟩))) (hm : blk n cs t ∈ rs) (hv : LoadV T cs off v) : RV Tryz.prog w0 S rs l (.cell a T) v := fun w hs => by
  have := hv w n t (hs.all _ hm)
  simp only [opnd] at ha
  simp only [Instr.loadAt, Instr.sureAddr, Sem.run_bind, Sem.run_pure, Result.andThen_ok] at this
  simp only [rvar, Array.getD_eq_getD_getElem?, List.getElem?_toArray, ha, Option.getD_some, asAddr, Sem.run_bind, Sem.run_pure, Result.andThen_ok, this]
/-- A call that turns one thing. -/
theorem seqS_callU {f : FuncId} {xs : List Operand} {ts : Array TypeId} {vs : List Value} {v : Value} {r r' : Res} {rs' : List Res} (hw : Region.wanted ⟨some d, .call { callee := .value (.func f), args := xs.toArray, argTypes := ts }, ty, pos, aft, gd⟩ (yielded ops l.toArray) = true)
    (hx : opnds l xs = some vs) (hf : look calL f = some ()) (hu : Upd r r' rs rs') (hff : r'.foot = r.foot)
    (hc : ∀ w, Sep w0 S rs w → r.holds w → Calls Tryz.prog f vs.toArray w (fun e w' => e = .returned v ∧ r'.holds w' ∧ Mod r.foot w w')) (hl : l.set d v = l')
    (h : seqS Tryz.prog w0 S ops Q rest ⟨l'.toArray, ds⟩ rs') :
    seqS Tryz.prog w0 S ops Q (⟨some d, .call { callee := .value (.func f), args := xs.toArray, argTypes := ts }, ty, pos, aft, gd⟩ :: rest) ⟨l.toArray, ds⟩ rs :=
  seqS_call (Φ := fun u q => u = v ∧ q = rs') hw hx (fun w => run_call hx hf w) (fun w hs => (hc w hs (hs.all _ hu.mem)).mono fun e w' ⟨he, hr, hm⟩ => ⟨v, _, he, ⟨rfl, rfl⟩, hs.updU hu hm hr (by rw [hff]; exact fun n hn => .inl hn)⟩)
    (fun u q l2 hl2 ⟨hu, hq⟩ => by subst hu; subst hq; rw [hl] at hl2; subst hl2; exact h)
/-- A call of a function value. -/
theorem run_callv {x : Operand} {f : FuncId} {first caps : List Value} {xs : List Operand} {ts : Array TypeId} {vs all : List Value} (hf : opnd l x = some (.func (.func f) first.toArray caps.toArray)) (hx : opnds l xs = some vs) (h : look calL f = some ()) (ha : first ++ vs ++ caps = all) (w : World) :
    (execOp (Act.eval ⟨l.toArray, ds⟩) ⟨dt, .call { callee := .value x, args := xs.toArray, argTypes := ts }, ty, pos, aft, gd⟩).run Tryz.prog w = .ok (.enter f all.toArray) w := by
  have key : ∀ (xs : List Operand) (vs : List Value), opnds l xs = some vs → xs.map (Act.eval ⟨l.toArray, ds⟩) = vs := by
    intro xs
    induction xs with
    | nil => intro vs h; simp only [opnds] at h; injection h
    | cons x xs ih =>
      intro vs h
      simp only [opnds] at h
      split at h
      · rename_i v us h1 h2
        injection h with h
        subst h
        rw [List.map_cons, opnd_eval h1, ih us h2]
      · cases h
  subst ha
  simp only [execOp, Sem.run_bind, resolve, opnd_eval hf, Deferred.ofValue, List.map_toArray, key xs vs hx, Sem.run_pure, Result.andThen_ok, invoke]
  have := calAll _ (look_mem h) (first ++ vs ++ caps).toArray w
  simpa using this
theorem seqS_enter0 {o : Oper} {f : FuncId} {vs : List Value} {v : Value} (hw : Region.wanted o (yielded ops l.toArray) = true) (hd : o.dst = some d) (he : ∀ w, (execOp (Act.eval ⟨l.toArray, ds⟩) o).run Tryz.prog w = .ok (.enter f vs.toArray) w)
    (hc : ∀ w, Sep w0 S rs w → Calls Tryz.prog f vs.toArray w (fun e w' => e = .returned v ∧ Mod [] w w')) (hl : l.set d v = l')
    (h : seqS Tryz.prog w0 S ops Q rest ⟨l'.toArray, ds⟩ rs) : seqS Tryz.prog w0 S ops Q (o :: rest) ⟨l.toArray, ds⟩ rs :=
  seqS_act (Φ := fun u rs' => u = v ∧ rs' = rs) hw (fun w hs => by
    rw [he w]
    refine (hc w hs).mono ?_
    rintro e w' ⟨rfl, hm⟩
    exact ⟨v, rs, rfl, ⟨rfl, rfl⟩, hs.garb hm⟩) (fun u rs' ⟨hu, hr⟩ => by
    subst hu; subst hr
    rw [hd, put_some hl]; exact h)
section ord
variable {rsS : St} {B : Nat} {gl gl' : GL} {i : Nat} {orest : List Nat} {ol : List Oper}
inductive UpdG (n : Nat) (x y : List Value × TypeId) : GL → GL → Prop
  | head {tl : GL} : UpdG n x y ((n, x) :: tl) ((n, y) :: tl)
  | tail {z : Nat × List Value × TypeId} {tl tl' : GL} : UpdG n x y tl tl' → UpdG n x y (z :: tl) (z :: tl')
theorem UpdG.at {n : Nat} {x y : List Value × TypeId} {a b : GL} (h : UpdG n x y a b) : ∃ k, a[k]? = some (n, x) ∧ b = a.set k (n, y) := by
  induction h with
  | head => exact ⟨0, rfl, rfl⟩
  | tail _ ih => obtain ⟨k, h1, rfl⟩ := ih; exact ⟨k + 1, by simpa using h1, rfl⟩
theorem ordS_put {T : TypeId} {x y : Operand} {n off : Nat} {v : Value} {cs cs' : List Value} {t : TypeId} (ho : ol[i]? = some ⟨none, .store T x y, ty, pos, aft, gd⟩)
    (hw : Region.wanted ⟨none, .store T x y, ty, pos, aft, gd⟩ (yielded ol.toArray l.toArray) = true) (hx : opnd l x = some (.pointer (some ⟨n, off, none⟩))) (hy : opnd l y = some v) (hu : UpdG n (cs, t) (cs', t) gl gl') (hv : StoreV T cs off v cs')
    (h : ordS Tryz.prog w0 S Q rsS B ol.toArray orest l ds gl' rs) : ordS Tryz.prog w0 S Q rsS B ol.toArray (i :: orest) l ds gl rs := fun hnd hi => by
  obtain ⟨k, hk, rfl⟩ := hu.at
  refine ord_put (lookL ho) hw rfl rfl n cs t cs' (ghOf_get hnd hk) (fun w hb => ?_) ?_
  · obtain ⟨w', hr, hb', _, ho'⟩ := hv w n t hb
    refine ⟨w', .inr ?_, ho', hb'⟩
    simp only [execOp, opnd_eval hx, opnd_eval hy, Sem.run_bind, hr]
    rfl
  · rw [← ghOf_set hnd hk]
    exact h (by rw [keys_set hk]; exact hnd) hi
end ord
theorem run_alloc {T : TypeId} {cs : List Value} (h : look zerL T = some cs) (w : World) :
    (execOp (Act.eval ⟨l.toArray, ds⟩) ⟨dt, .alloc T, ty, pos, aft, gd⟩).run Tryz.prog w = .ok (.value (.pointer (some ⟨w.heap.size, 0, none⟩))) (w.alloc (.cells cs.toArray T)) := by
  obtain ⟨z, hz, hc⟩ := zerAll _ (look_mem h) w
  simp only [execOp, Sem.run_bind, Instr.alloc, hz, Result.andThen_ok, newVar, newRow, run_newObj_alloc, Sem.run_pure]
  rw [← hc]
end
end Go.Proofs.YtmcaigmpcbkfpaaGreat
