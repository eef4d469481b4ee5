/- The plain statement of CtrlBack over the printed functions stands in the text that is imported. -/
import Derived.Test.YtbailgigabdhaaaDoorCtrlBack
