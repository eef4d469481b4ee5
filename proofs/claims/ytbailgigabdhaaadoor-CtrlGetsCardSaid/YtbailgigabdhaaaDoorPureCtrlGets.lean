/- The plain statement of CtrlGets over the printed functions stands in the text that is imported. -/
import Derived.Test.YtbailgigabdhaaaDoorLawsCtrlGets
